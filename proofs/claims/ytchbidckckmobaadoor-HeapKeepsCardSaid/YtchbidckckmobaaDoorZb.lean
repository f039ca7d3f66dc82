/- Texts of this proof laid together: Ev, Eu, Et, Es, Er, Aa, Ab, Ac, Ad, Ae, Af, Ag, Aj, Ha, Hb, Hc, Hd. No condition beyond what each lemma names. -/
import Derived.Test.YtchbidckckmobaaDoorZa
import Derived.Lib.Bytealg
import Derived.ChangeMaps5
/- More rules: strings, delete of a map's entry, functions of the library that the model itself carries out. No condition. -/
namespace Go.Proofs.YtchbidckckmobaaDoor
open Go.RowKit
set_option linter.unusedVariables false
set_option linter.unusedSimpArgs false
namespace E
variable {P : Program} {n : Cx} {e : Env} {w : World} {l0 l : List Oper} {K : Env → World → Prop} {d : Nat} {T : TypeId} {pos : String} {af : Array Edge} {x y : Operand} {TX TY : TypeId}
/-- a function without a Go body -/
theorem o_extern {f : FuncId} {fn : Func} {ex : Array Value → Sem Value} {args : List Operand} {vs : List Value} {ts : Array TypeId} {v : Value} {w' : World} (hf : P.funcs[f]? = some fn) (hname : (fn.name == "runtime.NumGoroutine") = false) (hb : fn.body.isNone = true) (hn : Extern.findNext fn = none) (he : Extern.find fn = some ex)
    (hv : evs n e args = vs) (hr : (ex vs.toArray).run P w = .ok v w') (h : ow P n l0 K l (upd e d v) w') : ow P n l0 K (⟨some d, .call ⟨.value (.func f), args.toArray, ts⟩, T, pos, af, none⟩ :: l) e w := by
  refine o_run (v := v) (w' := w') ?_ h
  have hc := run_callFunc_extern hf hname hb hn he vs.toArray w
  rw [hr] at hc
  have ha : (args.toArray.map (ev n e)) = vs.toArray := by rw [← hv, ← evs_eq]; simp
  simp [execOp, resolve, Deferred.ofValue, invoke, ev, ha, hc, Result.andThen] <;> first | done | (rw [← hv, ← evs_eq] at hc; simpa [Result.andThen] using hc)
theorem toList_beq (a b : ByteArray) : (a.toList == b.toList) = decide (a = b) := by
  rw [Lib.toList_data, Lib.toList_data]
  by_cases hab : a = b
  · subst hab; simp
  · have : ¬ a.data.toList = b.data.toList := fun e => hab (ByteArray.ext (Array.toList_inj.1 e))
    rw [beq_eq_false_iff_ne.2 this, decide_eq_false hab]
theorem b_eqlstr {a b : ByteArray} (hu : P.underlying TX = some .string) (hx : ev n e x = .string a) (hy : ev n e y = .string b) (h : ow P n l0 K l (upd e d (.bool (decide (a = b)))) w) :
    ow P n l0 K (⟨some d, .binOp .eql TX x y TY, T, pos, af, none⟩ :: l) e w := by
  refine o_run (v := .bool (decide (a = b))) (w' := w) ?_ h
  have hr : (Op.equal TX (.string a) (.string b)).run P w = .ok (a == b) w := eqv (fun d => by simp [Op.equalIn, run_underlying hu])
  have ht := toList_beq a b
  simp only [execOp, hx, hy, binOp, eqGuard, Sem.run_bind, hr, Result.andThen_ok, Sem.run_pure]
  simp [Op.stringOp, ht, hr, binOp]
theorem b_neqstr {a b : ByteArray} (hu : P.underlying TX = some .string) (hx : ev n e x = .string a) (hy : ev n e y = .string b) (h : ow P n l0 K l (upd e d (.bool (decide (a ≠ b)))) w) :
    ow P n l0 K (⟨some d, .binOp .neq TX x y TY, T, pos, af, none⟩ :: l) e w := by
  refine o_run (v := .bool (decide (a ≠ b))) (w' := w) ?_ h
  have hr : (Op.equal TX (.string a) (.string b)).run P w = .ok (a == b) w := eqv (fun d => by simp [Op.equalIn, run_underlying hu])
  have ht := toList_beq a b
  simp only [execOp, hx, hy, binOp, eqGuard, Sem.run_bind, hr, Result.andThen_ok, Sem.run_pure]
  simp [Op.stringOp, ht, hr, binOp]
/-- s[i] of a string -/
theorem o_ixstr {s : ByteArray} {m : Nat} {k : IntKind} (hu : P.underlying TX = some .string) (hx : ev n e x = .string s) (hi : ev n e y = .int k (m : Int)) (hm : m < s.size) (h : ow P n l0 K l (upd e d (.int .u8 (((s[m]).toBitVec).toNat : Int))) w) :
    ow P n l0 K (⟨some d, .index TX x y, T, pos, af, none⟩ :: l) e w := by
  refine o_run (v := .int .u8 (((s[m]).toBitVec).toNat : Int)) (w' := w) ?_ h
  have h1 : (0 : Int) ≤ (m : Int) := by omega
  have h2 : s[m]? = some s[m] := getElem?_pos s m hm
  simp [execOp, hx, hi, Instr.index, asIntOf, run_underlying hu, h1, h2]
/-- append to a new slice of nothing -/
theorem o_app0 {E : TypeId} {sz bytes : Nat} {z : Value} (hu : P.underlying TX = some (.slice E)) (hi : infB P E sz bytes z) (hzs : z.cells.size = sz) (hsz : 0 < sz)
    {g : Nat} {a' : Option Addr} {m' c' : Nat} {news : List Value} (hx : ev n e x = .slice (some ⟨g, 0, none⟩) 0 0) (hy : ev n e y = .slice a' m' c')
    (hB : Blk w g #[] E) (hr : Rd w a' news) (hl : news.length = m' * sz) (h1 : ∀ u ∈ news, u.oneCell' = true) (h63 : m' ≤ maxLen) (hby : m' * bytes ≤ 140737488355328)
    (h : ∀ a2 c2 w', Sl w' E sz a2 m' c2 news → Keep [] w w' → (∀ q, a2 = some q → q.block = g ∨ w.heap.size ≤ q.block) → ow P n l0 K l (upd e d (.slice a2 m' c2)) w') :
    ow P n l0 K (⟨some d, .call ⟨.builtin .append, #[x, y], #[TX, TX]⟩, T, pos, af, none⟩ :: l) e w := by
  by_cases hm : m' = 0
  · subst hm
    have hn : news = [] := List.eq_nil_of_length_eq_zero (by simpa using hl)
    subst hn
    obtain ⟨i, hi1, rfl, rfl, hz⟩ := hi
    refine o_run (v := .slice (some ⟨g, 0, none⟩) 0 0) (w' := w) ?_ (h (some ⟨g, 0, none⟩) 0 w ⟨by simp, .inr ⟨g, #[], rfl, hB, Nat.le_refl _, by simp [maxLen], by simp, by simp⟩⟩ (Keep.refl _ _) (fun q hq => by simp at hq; subst hq; exact .inl rfl))
    cases a' with
    | none => simp [execOp, resolve, invoke, builtin, hx, hy, Builtin.append_, run_underlying hu, sizeOf, typeInfo, hi1, Builtin.lenOf, Builtin.firstCells, storeCells]
    | some p => simp [execOp, resolve, invoke, builtin, hx, hy, Builtin.append_, run_underlying hu, sizeOf, typeInfo, hi1, Builtin.lenOf, Builtin.firstCells, storeCells, loadCells, loadCellsFrom]
  · obtain ⟨i, hi1, rfl, rfl, hz⟩ := hi
    have hpos : 0 < news.length := by rw [hl]; exact Nat.mul_pos (Nat.pos_of_ne_zero hm) hsz
    obtain ⟨b', o', rfl, _⟩ := hr.at 0 hpos
    have hnews : ∀ j u, news[j]? = some u → w.cell? ((⟨b', o', none⟩ : Addr).add j) = some u := by
      intro j u hj
      obtain ⟨b2, o2, he, hc⟩ := hr j u hj
      simp at he
      obtain ⟨rfl, rfl⟩ := he
      rw [Addr.add_lit]
      exact hc
    have hge := grownCap_ge w (0 + m') 0 E
    have hcm := grownCap_le_maxLen w (0 + m') 0 E (by omega)
    have hr' := run_append_grow (P := P) w TX T E i z hu hi1 hz ⟨g, 0, none⟩ 0 0 [] (by simp) (by simp) ⟨b', o', none⟩ m' c' news hl hnews (by omega) (by simp only [maxLen] at h63; omega) (growslice_fits (by omega) (by rw [Nat.zero_add]; exact hby))
    simp only [Nat.zero_add] at hr' hge hcm
    refine o_run (v := .slice (some ⟨w.heap.size, 0, none⟩) m' (grownCap w m' 0 E)) (w' := _) (by simp [execOp, resolve, invoke, builtin, hx, hy, hr']; rfl) (h _ _ _ ⟨hl, .inr ⟨w.heap.size, _, rfl, heap_alloc_new w.drew _, hge, hcm, ?_, ?_⟩⟩ ⟨rfl, rfl, rfl, by simp, fun k hk _ => Below.heap_alloc w.drew _ k hk⟩ (fun q hq => by simp at hq; subst hq; exact .inr (Nat.le_refl _)))
    · simp only [Array.size_append, List.size_toArray, size_zeroCells, hzs, hl]
      rw [← Nat.add_mul]
      congr 1
      omega
    · simp only [Array.toList_append, ← hl]
      simp
theorem delM_at {κ : Type} [DecidableEq κ] {kv : κ → Value} {l : List (κ × Value)} {es : List MapEntry} (he : es.map (fun x => (x.key, x.val)) = l.map (fun p => (kv p.1, p.2))) (x : κ) :
    match (l.map (·.1)).findIdx? (fun y => decide (x = y)) with
    | some i => (es.eraseIdx i).map (fun x => (x.key, x.val)) = (delM l x).map (fun p => (kv p.1, p.2)) ∧ i < es.length
    | none => delM l x = l := by
  induction l generalizing es with
  | nil => simp [delM]
  | cons p l ih =>
    obtain ⟨e0, es', rfl⟩ : ∃ e0 es', es = e0 :: es' := by
      cases es with
      | nil => simp at he
      | cons a b => exact ⟨a, b, rfl⟩
    simp only [List.map_cons, List.cons.injEq, Prod.mk.injEq] at he
    have ihh := ih he.2
    rw [List.map_cons, List.findIdx?_cons]
    by_cases h : x = p.1
    · simp only [h, decide_true, if_true]
      exact ⟨by simp [delM, he.2], by simp⟩
    · simp only [h, decide_false, if_false, Bool.false_eq_true]
      cases hx : (l.map (·.1)).findIdx? (fun y => decide (x = y)) with
      | none =>
        rw [hx] at ihh
        simp only [Option.map_none]
        rw [delM, if_neg h, ihh]
      | some i =>
        rw [hx] at ihh
        simp only [Option.map_some]
        refine ⟨?_, by simpa using ihh.2⟩
        rw [delM, if_neg h, List.eraseIdx_cons_succ, List.map_cons, List.map_cons, ihh.1]
        simp [he.1.1, he.1.2]
/-- delete(m, k) -/
theorem o_mdel {κ : Type} [DecidableEq κ] {kv : κ → Value} {KT E : TypeId} {r : Nat} {m : List (κ × Value)} {q : κ} {ts : Array TypeId} (hu : P.underlying TX = some (.map KT E)) (hts : ts[0]? = some TX) (hk : KeyOk P KT kv) (hx : ev n e x = .map (some r)) (hy : ev n e y = kv q) (hm : Mp w r kv m)
    (h : ∀ w', Mp w' r kv (delM m q) → Keep [r] w w' → w'.heap.size = w.heap.size → ow P n l0 K l e w') : ow P n l0 K (⟨none, .call ⟨.builtin .delete, #[x, y], ts⟩, T, pos, af, none⟩ :: l) e w := by
  obtain ⟨es, clock, hh, he, hbn⟩ := hm
  have hlt : r < w.heap.size := (Array.getElem?_eq_some_iff.1 hh).1
  have hg : (getObj r).run P w = .ok (.map es clock) w := by simp [getObj, Sem.run, hh]
  have hf := run_find hk he q w
  have hat := delM_at he q
  have hset : ∀ o', (setObj r o').run P w = .ok () { w with heap := w.heap.setIfInBounds r o' } := fun o' => run_setObj hh (by intros; simp)
  cases hi : (m.map (·.1)).findIdx? (fun y => decide (q = y)) with
  | none =>
    rw [hi] at hf hat
    simp only at hat
    refine o_run (d := none) (v := .tuple #[]) (w' := { w with heap := w.heap.setIfInBounds r (.map es clock) }) ?_ (h _ ⟨es, clock, by simp [hlt], by rw [hat]; exact he, hbn⟩ keep_setObj (by simp))
    simp only [Option.map_none] at hf
    simp [execOp, resolve, invoke, builtin, hx, hy, Builtin.delete_, hts, run_underlying hu, hg, hk.check, hf, hset]
  | some i =>
    rw [hi] at hf hat
    simp only at hat
    have hsz : i < es.size := by simpa using hat.2
    refine o_run (d := none) (v := .tuple #[]) (w' := { w with heap := w.heap.setIfInBounds r (.map (es.eraseIdxIfInBounds i) clock) }) ?_ (h _ ⟨es.eraseIdxIfInBounds i, clock, by simp [hlt], ?_, ?_⟩ keep_setObj (by simp))
    · simp only [Option.map_some] at hf
      simp [execOp, resolve, invoke, builtin, hx, hy, Builtin.delete_, hts, run_underlying hu, hg, hk.check, hf, hset]
    · rw [← hat.1]
      simp [Array.eraseIdxIfInBounds, hsz, Array.toList_eraseIdx]
    · intro y hy
      have : y ∈ es.toList := by
        simp only [Array.eraseIdxIfInBounds, hsz, dif_pos, Array.toList_eraseIdx] at hy
        exact List.mem_of_mem_eraseIdx hy
      exact hbn y this
theorem getM_none {κ : Type} [DecidableEq κ] : ∀ {l : List (κ × Value)} {x : κ}, x ∉ l.map (·.1) → getM l x = none
  | [], _, _ => rfl
  | p :: l, x, h => by
    simp only [List.map_cons, List.mem_cons, not_or] at h
    rw [getM_cons, if_neg h.1]
    exact getM_none h.2
theorem getM_del {κ : Type} [DecidableEq κ] : ∀ {l : List (κ × Value)} {x : κ}, (l.map (·.1)).Nodup → ∀ y, getM (delM l x) y = if y = x then none else getM l y
  | [], x, _, y => by rw [delM, getM_nil]; split <;> rfl
  | p :: l, x, h, y => by
    simp only [List.map_cons, List.nodup_cons] at h
    rw [delM]
    by_cases hx : x = p.1
    · rw [if_pos hx]
      by_cases hy : y = x
      · rw [if_pos hy, hy, hx]; exact getM_none h.1
      · rw [if_neg hy, getM_cons, if_neg (fun e => hy (e.trans hx.symm))]
    · rw [if_neg hx, getM_cons, getM_del h.2 y]
      by_cases hy : y = p.1
      · rw [if_pos hy, if_neg (fun e => hx (e.symm.trans hy)), getM_cons, if_pos hy]
      · rw [if_neg hy]
        by_cases hyx : y = x
        · rw [if_pos hyx, if_pos hyx]
        · rw [if_neg hyx, if_neg hyx, getM_cons, if_neg hy]
theorem keys_put {κ : Type} [DecidableEq κ] : ∀ (l : List (κ × Value)) (x : κ) (v : Value), ∀ y, y ∈ (putM l x v).map (·.1) ↔ y = x ∨ y ∈ l.map (·.1)
  | [], x, v, y => by simp [putM]
  | p :: l, x, v, y => by
    rw [putM]
    by_cases hx : x = p.1
    · rw [if_pos hx]; simp [hx]
    · rw [if_neg hx]
      simp only [List.map_cons, List.mem_cons, keys_put l x v y]
      constructor
      · rintro (h | h | h)
        · exact .inr (.inl h)
        · exact .inl h
        · exact .inr (.inr h)
      · rintro (h | h | h)
        · exact .inr (.inl h)
        · exact .inl h
        · exact .inr (.inr h)
theorem nodup_put {κ : Type} [DecidableEq κ] : ∀ {l : List (κ × Value)} {x : κ} {v : Value}, (l.map (·.1)).Nodup → ((putM l x v).map (·.1)).Nodup
  | [], _, _, _ => by simp [putM]
  | p :: l, x, v, h => by
    simp only [List.map_cons, List.nodup_cons] at h
    rw [putM]
    by_cases hx : x = p.1
    · rw [if_pos hx]; simp only [List.map_cons, List.nodup_cons]; rw [hx]; exact h
    · rw [if_neg hx]
      simp only [List.map_cons, List.nodup_cons]
      refine ⟨fun hm => ?_, nodup_put h.2⟩
      rcases (keys_put l x v p.1).1 hm with e | e
      · exact hx e.symm
      · exact h.1 e
theorem keys_del {κ : Type} [DecidableEq κ] : ∀ (l : List (κ × Value)) (x : κ), ∀ y, y ∈ (delM l x).map (·.1) → y ∈ l.map (·.1)
  | [], x, y, h => by simp [delM] at h
  | p :: l, x, y, h => by
    rw [delM] at h
    by_cases hx : x = p.1
    · rw [if_pos hx] at h; simp only [List.map_cons, List.mem_cons]; exact .inr h
    · rw [if_neg hx] at h
      simp only [List.map_cons, List.mem_cons] at h ⊢
      rcases h with h | h
      · exact .inl h
      · exact .inr (keys_del l x y h)
theorem nodup_del {κ : Type} [DecidableEq κ] : ∀ {l : List (κ × Value)} {x : κ}, (l.map (·.1)).Nodup → ((delM l x).map (·.1)).Nodup
  | [], _, _ => by simp [delM]
  | p :: l, x, h => by
    simp only [List.map_cons, List.nodup_cons] at h
    rw [delM]
    by_cases hx : x = p.1
    · rw [if_pos hx]; exact h.2
    · rw [if_neg hx]
      simp only [List.map_cons, List.nodup_cons]
      exact ⟨fun hm => h.1 (keys_del l x p.1 hm), nodup_del h.2⟩
theorem op_str {H : Type} {enc : TypeId × Value → H} {P : Program} {W : World} {base : Nat} {t : TypeId} {v : Value} {d : DataW H} {p : List MemPlace} (ht : P.underlying t = some .string) (hok : Value.okWide P W .any base t v) (h : DataW.Trod enc P W 0 (fun _ => true) true t v d p) :
    ∃ s : ByteArray, v = .string s ∧ s.size ≤ 9223372036854775807 := by
  obtain ⟨s, h1, _, _, h2⟩ := ChangeMaps.open_string ht hok h
  exact ⟨s, h1, by simpa [maxLen] using h2⟩
end E
end Go.Proofs.YtchbidckckmobaaDoor

/- More rules: function values and calls of them. No condition. -/
namespace Go.Proofs.YtchbidckckmobaaDoor
open Go.RowKit
set_option linter.unusedVariables false
set_option linter.unusedSimpArgs false
namespace E
variable {P : Program} {n : Cx} {e : Env} {w : World} {l0 l : List Oper} {K : Env → World → Prop} {d : Nat} {T : TypeId} {pos : String} {af : Array Edge} {x y : Operand} {TX TY : TypeId}
/-- a function value -/
theorem o_mkfn {fn : Fn} {caps : List Operand} {vs : List Value} (hv : evs n e caps = vs) (h : ow P n l0 K l (upd e d (.func fn #[] vs.toArray)) w) : ow P n l0 K (⟨some d, .makeFunc fn #[] caps.toArray, T, pos, af, none⟩ :: l) e w := by
  refine o_run (v := .func fn #[] vs.toArray) (w' := w) ?_ h
  simp [execOp, Instr.makeFunc, ← hv, ← evs_eq]
/-- a function value is called -/
theorem o_callc {f : FuncId} {args : List Operand} {vs caps : List Value} {ts : Array TypeId} {d : Option Nat} {S : Value → World → Prop} (hx : ev n e x = .func (.func f) #[] caps.toArray) (hf : callOk P f = true) (hv : evs n e args = vs) (hc : Ret P f (vs ++ caps) w S)
    (h : ∀ v w', S v w' → ow P n l0 K l (updo e d v) w') : ow P n l0 K (⟨d, .call ⟨.value x, args.toArray, ts⟩, T, pos, af, none⟩ :: l) e w := by
  unfold ow
  rw [if_pos (by simp [Region.wanted])]
  have hr : (execOp (ev n e) ⟨d, .call ⟨.value x, args.toArray, ts⟩, T, pos, af, none⟩).run P w = .ok (.enter f (vs ++ caps).toArray) w := by
    unfold callOk at hf
    split at hf
    · rename_i fn hfn
      simp only [Bool.and_eq_true, Bool.not_eq_true'] at hf
      have hb : ¬ fn.body = none := by cases h : fn.body <;> simp_all
      have hn : ¬ fn.name = "runtime.NumGoroutine" := by simpa using hf.1
      simp [execOp, resolve, Deferred.ofValue, invoke, callFunc, hx, hfn, hn, hb, ← hv, ← evs_eq]
    · cases hf
  unfold opW
  refine ⟨no_defer (w' := w) (.inr (.inr (.inl ⟨_, _, hr⟩))), ?_⟩
  rw [hr]
  exact Calls.mono hc fun y w' hy => by
    cases y with
    | returned v => exact h _ _ hy
    | _ => exact hy
end E
end Go.Proofs.YtchbidckckmobaaDoor

/- More of the engine: append, with what stays of the old block. No condition. -/
namespace Go.Proofs.YtchbidckckmobaaDoor
open Go.RowKit
set_option linter.unusedVariables false
set_option linter.unusedSimpArgs false
namespace E
variable {P : Program} {n : Cx} {e : Env} {w : World} {l0 l : List Oper} {K : Env → World → Prop} {d : Nat} {T : TypeId} {pos : String} {af : Array Edge} {x y : Operand} {TX TY : TypeId}
theorem run_append2 {E : TypeId} {sz bytes : Nat} {z : Value} (hu : P.underlying TX = some (.slice E)) (hi : infB P E sz bytes z) (hzs : z.cells.size = sz) (hsz : 0 < sz)
    {a : Option Addr} {m c : Nat} {xs : List Value} (ho : Sl w E sz a m c xs) {a' : Option Addr} {m' c' : Nat} {news : List Value} (hr : Rd w a' news) (hl : news.length = m' * sz) (h1 : ∀ u ∈ news, u.oneCell' = true)
    (h63 : m + m' ≤ maxLen) (hby : (m + m') * bytes ≤ 140737488355328) :
    ∃ a2 c2 w', (Builtin.append_ #[TX, TX] T #[.slice a m c, .slice a' m' c']).run P w = .ok (.slice a2 (m + m') c2) w' ∧ Sl w' E sz a2 (m + m') c2 (xs ++ news) ∧
      ((a2 = a ∧ c2 = c ∧ Keep (blkOf a) w w' ∧ w'.heap.size = w.heap.size) ∨ (∃ g, a2 = some ⟨g, 0, none⟩ ∧ Keep [] w w' ∧ w.heap.size = g ∧ w'.heap.size = g + 1)) := by
  obtain ⟨i, hi1, rfl, rfl, hz⟩ := hi
  have hlen : (xs ++ news).length = (m + m') * i.size := by rw [List.length_append, ho.1, hl, Nat.add_mul]
  have hsmall : m + m' ≤ 9223372036854775807 := by simp only [maxLen] at h63; omega
  have hge := fun old => grownCap_ge w (m + m') old E
  have hcm := fun old => grownCap_le_maxLen w (m + m') old E h63
  have grown : ∀ old, Sl (w.drew.alloc (.cells (xs.toArray ++ news.toArray ++ Builtin.zeroCells z.cells (grownCap w (m + m') old E - (m + m'))) E)) E i.size (some ⟨w.heap.size, 0, none⟩) (m + m') (grownCap w (m + m') old E) (xs ++ news) := by
    intro old
    refine ⟨hlen, .inr ⟨w.heap.size, _, rfl, heap_alloc_new w.drew _, hge old, hcm old, ?_, ?_⟩⟩
    · simp only [Array.size_append, List.size_toArray, size_zeroCells, hzs, ho.1, hl, ← Nat.add_mul]
      congr 1
      have := hge old
      omega
    · simp only [Array.toList_append, List.append_assoc]
      rw [← List.append_assoc, ← hlen]
      exact List.take_left
  have kgrown : ∀ o, Keep [] w (w.drew.alloc o) := fun o => ⟨rfl, rfl, rfl, by simp, fun k hk _ => Below.heap_alloc w.drew o k hk⟩
  by_cases hm' : m' = 0
  · -- nothing is appended
    subst hm'
    have hn : news = [] := List.eq_nil_of_length_eq_zero (by simpa using hl)
    subst hn
    refine ⟨a, c, w, ?_, by simpa using ho, .inl ⟨rfl, rfl, Keep.refl _ _, rfl⟩⟩
    have hle := ho.le
    cases a' with
    | none => cases a <;> simp [Builtin.append_, run_underlying hu, sizeOf, typeInfo, hi1, Builtin.lenOf, Builtin.firstCells, hle, storeCells]
    | some p => cases a <;> simp [Builtin.append_, run_underlying hu, sizeOf, typeInfo, hi1, Builtin.lenOf, Builtin.firstCells, hle, storeCells, loadCells, loadCellsFrom]
  · have hpos : 0 < news.length := by rw [hl]; exact Nat.mul_pos (Nat.pos_of_ne_zero hm') hsz
    obtain ⟨b', o', rfl, _⟩ := hr.at 0 hpos
    have hnews : ∀ j u, news[j]? = some u → w.cell? ((⟨b', o', none⟩ : Addr).add j) = some u := by
      intro j u hj
      obtain ⟨b2, o2, he, hc⟩ := hr j u hj
      simp at he
      obtain ⟨rfl, rfl⟩ := he
      rw [Addr.add_lit]
      exact hc
    rcases ho.2 with ⟨rfl, rfl, rfl⟩ | ⟨g, cur, rfl, hb, hle, hcap, hcs, htake⟩
    · have hx : xs = [] := List.eq_nil_of_length_eq_zero (by simpa using ho.1)
      subst hx
      have hr' := run_append_nil (P := P) w TX T E i z hu hi1 hz ⟨b', o', none⟩ m' c' news hl hnews (by omega) (by omega) (by have hb := hby; simp only [Nat.zero_add] at hb; omega)
      have hgr := grown 0
      simp only [Nat.zero_add, List.nil_append, Array.empty_append] at hgr ⊢
      exact ⟨_, _, _, hr', hgr, .inr ⟨_, rfl, kgrown _, rfl, by simp⟩⟩
    · by_cases hroom : m + m' ≤ c
      · have hfit : m * i.size + news.length ≤ cur.size := by rw [hl, hcs, ← Nat.add_mul]; exact Nat.mul_le_mul_right _ hroom
        have hr' := run_append_room (P := P) w TX T E i hu hi1 g m c cur hb ⟨b', o', none⟩ m' c' news hl hnews h1 hroom hfit
        refine ⟨_, _, _, hr', ⟨hlen, .inr ⟨g, _, rfl, setRow_heap w g cur _ E _ hb, hroom, hcap, ?_, ?_⟩⟩, .inl ⟨rfl, rfl, ⟨rfl, rfl, rfl, by simp, fun k _ hk => setRow_other w g k _ (by simpa [blkOf] using hk)⟩, by simp⟩⟩
        · simp only [List.size_toArray, List.length_append, List.length_take, List.length_drop, Array.length_toList]
          omega
        · rw [htake, ← hlen]
          exact List.take_left
      · have holds : ∀ j u, xs[j]? = some u → w.cell? ((⟨g, 0, none⟩ : Addr).add j) = some u := by
          intro j u hj
          obtain ⟨b2, o2, he, hc⟩ := ho.rd j u hj
          simp at he
          obtain ⟨rfl, rfl⟩ := he
          rw [Addr.add_lit]
          exact hc
        have hr' := run_append_grow (P := P) w TX T E i z hu hi1 hz ⟨g, 0, none⟩ m c xs ho.1 holds ⟨b', o', none⟩ m' c' news hl hnews (by omega) (by omega) (growslice_fits (by omega) hby)
        exact ⟨_, _, _, hr', grown c, .inr ⟨_, rfl, kgrown _, rfl, by simp⟩⟩

theorem o_app2 {E : TypeId} {sz bytes : Nat} {z : Value} (hu : P.underlying TX = some (.slice E)) (hi : infB P E sz bytes z) (hzs : z.cells.size = sz) (hsz : 0 < sz)
    {a : Option Addr} {m c : Nat} {xs : List Value} {a' : Option Addr} {m' c' : Nat} {news : List Value} (hx : ev n e x = .slice a m c) (hy : ev n e y = .slice a' m' c')
    (ho : Sl w E sz a m c xs) (hr : Rd w a' news) (hl : news.length = m' * sz) (h1 : ∀ u ∈ news, u.oneCell' = true)
    (h63 : m + m' ≤ maxLen) (hby : (m + m') * bytes ≤ 140737488355328)
    (h : ∀ a2 c2 w', Sl w' E sz a2 (m + m') c2 (xs ++ news) → ((a2 = a ∧ c2 = c ∧ Keep (blkOf a) w w' ∧ w'.heap.size = w.heap.size) ∨ (∃ g, a2 = some ⟨g, 0, none⟩ ∧ Keep [] w w' ∧ w.heap.size = g ∧ w'.heap.size = g + 1)) → ow P n l0 K l (upd e d (.slice a2 (m + m') c2)) w') :
    ow P n l0 K (⟨some d, .call ⟨.builtin .append, #[x, y], #[TX, TX]⟩, T, pos, af, none⟩ :: l) e w := by
  obtain ⟨a2, c2, w', hrun, hs, hv⟩ := run_append2 (P := P) (T := T) hu hi hzs hsz ho hr (c' := c') hl h1 h63 hby
  refine o_run (v := .slice a2 (m + m') c2) (w' := w') ?_ (h a2 c2 w' hs hv)
  simp [execOp, resolve, invoke, builtin, hx, hy, hrun]
/-- the front of a slice -/
theorem Sl.front {E : TypeId} {sz m k c : Nat} {a : Option Addr} {xs ys : List Value} (h : Sl w E sz a (m + k) c (xs ++ ys)) (hx : xs.length = m * sz) (hk : 0 < m ∨ 0 < k) : Sl w E sz a m c xs := by
  refine ⟨hx, ?_⟩
  rcases h.2 with ⟨h1, h2, h3⟩ | ⟨g, cur, h1, hb, hle, hcap, hcs, ht⟩
  · omega
  · refine .inr ⟨g, cur, h1, hb, by omega, hcap, hcs, ?_⟩
    have := congrArg (List.take (m * sz)) ht
    rw [List.take_take, Nat.min_eq_left (Nat.mul_le_mul_right _ (by omega))] at this
    rw [this, ← hx, List.take_left]
/-- a relation of worlds: what is kept, and facts that last -/
def LeF (S : List Nat) (Fs : List (World → Prop)) (w w' : World) : Prop := Keep S w w' ∧ ∀ F ∈ Fs, F w → F w'
theorem LeF.refl (S : List Nat) (Fs : List (World → Prop)) (w : World) : LeF S Fs w w := ⟨Keep.refl _ _, fun _ _ h => h⟩
theorem LeF.tr {S : List Nat} {Fs : List (World → Prop)} {w w1 w2 : World} (h : LeF S Fs w w1) (h' : LeF S Fs w1 w2) : LeF S Fs w w2 :=
  ⟨h.1.trans h'.1 (fun _ hb _ => hb), fun F hF h0 => h'.2 F hF (h.2 F hF h0)⟩
theorem Sl.unk {E : TypeId} {sz m m' c c' : Nat} {a : Option Addr} {xs ys : List Value} (h : Sl w E sz a m c xs) (h' : Sl w E sz a m' c' ys) (ha : a ≠ none) (hs : 0 < sz) : c = c' := by
  rcases h.2 with ⟨h1, _⟩ | ⟨g, cur, h1, hb, _, _, hcs, _⟩
  · exact absurd h1 ha
  rcases h'.2 with ⟨h1', _⟩ | ⟨g', cur', h1', hb', _, _, hcs', _⟩
  · exact absurd h1' ha
  rw [h1] at h1'
  cases h1'
  have := hb.inj hb'
  subst this
  exact Nat.eq_of_mul_eq_mul_right hs (hcs.symm.trans hcs')
/-- a result that lies in memory -/
theorem ret_cell0 {P : Program} {m : Nat} {rd : Option Nat} {e : Env} {w : World} {F : Func} {S : Value → World → Prop} {a t b : Nat} {xs : List Value} (hr : F.results = #[.cell a t]) (ha : ev ⟨m, [], rd⟩ e (.tmp a) = .pointer (some ⟨b, 0, none⟩)) (ht : isAggB P t = true) (hs : szB P t xs.length = true)
    (hc : ∀ j v, xs[j]? = some v → w.cell? ⟨b, j, none⟩ = some v) (h : S (.agg xs.toArray) w) : retR P F S .ret (act ⟨m, [], rd⟩ e) w := by
  obtain ⟨n, hn⟩ : ∃ n : Cx, n = ⟨m, [], rd⟩ := ⟨_, rfl⟩
  rw [← hn] at ha
  show ∃ v, (results F (act ⟨m, [], rd⟩ e).tmps).run P w = .ok v w ∧ S v w
  rw [← hn]
  refine ⟨.agg xs.toArray, ?_, h⟩
  have hg : ∀ t, (act n e).tmps.getD t undef = ev n e (.tmp t) := fun t => by rw [← act_eval]; rfl
  have hl := run_loadCellsFrom (P := P) (w := w) (b := b) (o := 0) xs 0 #[] (fun j v hv => by rw [Nat.zero_add, Nat.zero_add]; exact hc j v hv)
  have hlv : (loadVar t ⟨b, 0, none⟩).run P w = .ok (.agg xs.toArray) w := by
    simp [loadVar, run_isAggT ht, run_sizeOf hs, loadCells, hl]
  have hm : (F.results.mapM (fun
      | .tmp t => pure ((act n e).tmps.getD t undef)
      | .cell a t => do loadVar t (← asAddr ((act n e).tmps.getD a undef)) : ResultVar → Sem Value)).run P w = .ok #[.agg xs.toArray] w := by
    rw [hr]
    simp only [Array.mapM_eq_foldlM, ← Array.foldlM_toList, List.foldlM_cons, List.foldlM_nil, Sem.run_bind, Sem.run_map, Sem.run_pure, Result.andThen_ok, hg, ha, asAddr, hlv]
    rfl
  have hres : (results F (act n e).tmps).run P w = ((F.results.mapM (fun
      | .tmp t => pure ((act n e).tmps.getD t undef)
      | .cell a t => do loadVar t (← asAddr ((act n e).tmps.getD a undef)) : ResultVar → Sem Value)).run P w).andThen
        (fun vs w' => (pure (if h : vs.size = 1 then vs[0] else .tuple vs) : Sem Value).run P w') := Sem.run_bind P w _ _
  rw [hres, hm, Result.andThen_ok, Sem.run_pure]
  simp
end E
end Go.Proofs.YtchbidckckmobaaDoor

/- More of the engine: a region that draws its order, with an invariant of what was done, of the slots and of memory. No condition. -/
namespace Go.Proofs.YtchbidckckmobaaDoor
open Go.RowKit
set_option linter.unusedVariables false
set_option linter.unusedSimpArgs false
namespace E
variable {P : Program} {n : Cx} {R : Exit → Act → World → Prop} {k : List KI} {e : Env} {w : World}
theorem k_anyE {id : Nat} {l : List Oper} (m : Nat) (Le : World → World → Prop) (V : Nat → Value → World → Prop) (G : (Nat → Bool) → Env → World → Prop) (hm : P.follows .mixedOrders = true) (hb : backB 0 l = true) (ht : tailB m 0 l = true) (ho : ownB (dsts (l.take m)) = true)
    (hrefl : ∀ w, Le w w) (htrans : ∀ a b c, Le a b → Le b c → Le a c) (hst : ∀ i v w w', V i v w → Le w w' → V i v w') (hG : G (fun _ => false) e w.drew)
    (hop : ∀ i o, i < m → l[i]? = some o → ∀ D e' w', D i = false → (∀ j ∈ deps o, D j = true) → Shut l D → G D e' w' → Le w.drew w' → (∀ t, (∀ j, j < m → slotOf l j ≠ some t) → e' t = e t) → (∀ j ∈ deps o, ∀ t, slotOf l j = some t → V j (e' t) w') →
      ow P n l (fun e2 w2 => Le w' w2 ∧ V i (rdo e2 o.dst) w2 ∧ G (fun x => if x = i then true else D x) (updo e' o.dst (rdo e2 o.dst)) w2) [o] e' w')
    (hend : ∀ D e' w', (∀ i, i < m → i < l.length → D i = true) → G D e' w' → Le w.drew w' → (∀ t, (∀ j, j < m → slotOf l j ≠ some t) → e' t = e t) → (∀ j, j < m → ∀ t, slotOf l j = some t → V j (e' t) w') → ow P n l (kw P n R k) (l.drop m) e' w') :
    kw P n R (.code (.region id l.toArray true) :: k) e w := by
  have hown : ∀ i j d, i < m → j < m → slotOf l i = some d → slotOf l j = some d → i = j := by
    intro i j d hi hj h1 h2
    have conv : ∀ i, i < m → slotOf l i = some d → (dsts (l.take m))[i]? = some (some d) := by
      intro i hi h1
      rw [← slotOf_eq] at h1
      cases hl : l[i]? with
      | none => rw [hl] at h1; simp at h1
      | some o => rw [hl] at h1; simp at h1; simp [dsts, List.getElem?_take, hi, hl, h1]
    exact ownB_spec _ ho i j d (conv i hi h1) (conv j hj h2)
  refine k_core2 hm hb (fun D e' w' =>
    ((Le w.drew w' ∧ G D e' w') ∧ (∀ t, (∀ j, j < m → D j = true → slotOf l j ≠ some t) → e' t = e t) ∧ (∀ j, j < m → D j = true → ∀ t, slotOf l j = some t → V j (e' t) w') ∧ (∀ q, m ≤ q → D q = false)) ∨
    (∃ q, m < q ∧ (∀ i, i < q → D i = true) ∧ (∀ i, q ≤ i → D i = false) ∧ ow P n l (kw P n R k) (l.drop q) e' w')) ?_ ?_ ?_ (fun hK => ow_mono hK)
  · exact .inl ⟨⟨hrefl _, hG⟩, fun t _ => rfl, fun j _ h => by simp at h, fun _ _ => rfl⟩
  · intro D e' w' i o hl hD hdep hShut hI
    by_cases him : i < m
    · rcases hI with ⟨⟨hL, hGD⟩, hA, hV, hq⟩ | ⟨q, hq, hall, _, _⟩
      · have hA' : ∀ t, (∀ j, j < m → slotOf l j ≠ some t) → e' t = e t := fun t h => hA t (fun j hj _ => h j hj)
        have hd : ∀ j ∈ deps o, ∀ t, slotOf l j = some t → V j (e' t) w' := by
          intro j hj t hs
          have := backB_spec l 0 hb i o hl j hj
          exact hV j (by omega) (hdep j hj) t hs
        refine ow_mono ?_ (ow_frame (hop i o him hl D e' w' hD hdep hShut hGD hL hA' hd))
        rintro e2 w2 ⟨⟨hL2, hV2, hG2⟩, v, rfl⟩
        have hdc : o.dst = none ∨ ∃ d, o.dst = some d := by cases o.dst <;> simp
        rcases hdc with hdst | ⟨d, hdst⟩
        · have hup : ∀ v, updo e' o.dst v = e' := fun v => by rw [hdst]; rfl
          rw [hup] at hG2 ⊢
          have hsi : slotOf l i = none := by rw [slotOf_dst hl, hdst]
          have hni : ∀ j t, slotOf l j = some t → j ≠ i := fun j t hs hji => by rw [hji, hsi] at hs; cases hs
          refine .inl ⟨⟨htrans _ _ _ hL hL2, hG2⟩, ?_, ?_, ?_⟩
          · intro t h
            exact hA t (fun j hj hDj => h j hj (by by_cases hji : j = i <;> simp [hji, hDj]))
          · intro j hj hDj t hs
            exact hst _ _ _ _ (hV j hj (by simpa [hni j t hs] using hDj) t hs) hL2
          · intro q hqm
            have : q ≠ i := by omega
            simp [this, hq q hqm]
        have hsi : slotOf l i = some d := by rw [slotOf_dst hl, hdst]
        refine .inl ⟨⟨htrans _ _ _ hL hL2, ?_⟩, ?_, ?_, ?_⟩
        · have : rdo (updo e' o.dst v) o.dst = v := by rw [hdst]; simp [rdo, updo, upd]
          rw [this] at hG2
          exact hG2
        · intro t h
          have hne : t ≠ d := fun h' => h i him (by simp) (by rw [hsi, h'])
          rw [hdst]
          show upd e' d v t = e t
          unfold upd
          rw [beqf hne]
          exact hA t (fun j hj hDj => h j hj (by by_cases hji : j = i <;> simp [hji, hDj]))
        · intro j hj hDj t hs
          by_cases hji : j = i
          · subst hji
            have htd : t = d := by rw [hsi] at hs; exact (Option.some.inj hs).symm
            subst htd
            rw [hdst] at hV2 ⊢
            exact hV2
          · have hne : t ≠ d := fun h' => hji (hown j i d hj him (by rw [hs, h']) hsi)
            rw [hdst]
            show V j (upd e' d v t) w2
            unfold upd
            rw [beqf hne]
            exact hst _ _ _ _ (hV j hj (by simpa [hji] using hDj) t hs) hL2
        · intro q hqm
          have : q ≠ i := by omega
          simp [this, hq q hqm]
      · have := hall i (by omega)
        rw [hD] at this
        cases this
    · have hdall : ∀ j, j < i → D j = true := tailB_spec m l ht i o hl (by omega) D hShut hdep
      have hdrop : l.drop i = o :: l.drop (i + 1) := by
        have hlt := (List.getElem?_eq_some_iff.1 hl).1
        rw [List.drop_eq_getElem_cons hlt, (List.getElem?_eq_some_iff.1 hl).2]
      have fin : (∀ j, i < j → D j = false) → ow P n l (kw P n R k) (l.drop i) e' w' → ow P n l (fun e2 w2 => ∃ q, m < q ∧ (∀ x, x < q → (if x = i then true else D x) = true) ∧ (∀ x, q ≤ x → (if x = i then true else D x) = false) ∧ ow P n l (kw P n R k) (l.drop q) e2 w2) [o] e' w' := by
        intro hlater hrun
        rw [hdrop] at hrun
        refine ow_mono ?_ (ow_cons hrun)
        intro e2 w2 h2
        refine ⟨i + 1, by omega, fun x hx => ?_, fun x hx => ?_, h2⟩
        · by_cases hxi : x = i
          · simp [hxi]
          · simp [hxi, hdall x (by omega)]
        · have : x ≠ i := by omega
          simp [this, hlater x (by omega)]
      rcases hI with ⟨⟨hL, hGD⟩, hA, hV, hq⟩ | ⟨q, hq, hall, hnone, hrun⟩
      · have him' : i = m := by
          by_cases h : i = m
          · exact h
          · have h1 := hdall m (by omega)
            rw [hq m (Nat.le_refl _)] at h1
            cases h1
        subst him'
        exact ow_mono (fun _ _ h => .inr h) (fin (fun j hj => hq j (by omega)) (hend D e' w' (fun j hj _ => hdall j hj) hGD hL (fun t h => hA t (fun j hj _ => h j hj)) (fun j hj t hs => hV j hj (hdall j hj) t hs)))
      · have hqi : q = i := by
          by_cases h1 : i < q
          · have := hall i h1; rw [hD] at this; cases this
          · by_cases h2 : q < i
            · have := hdall q h2; rw [hnone q (Nat.le_refl _)] at this; cases this
            · omega
        subst hqi
        exact ow_mono (fun _ _ h => .inr h) (fin (fun j hj => hnone j (by omega)) hrun)
  · intro D e' w' hall hI
    rcases hI with ⟨⟨hL, hGD⟩, hA, hV, hq⟩ | ⟨q, hq, hall', hnone, hrun⟩
    · have hlen : l.length ≤ m := by
        by_cases h : l.length ≤ m
        · exact h
        · have := hall m (by omega); rw [hq m (Nat.le_refl _)] at this; cases this
      have hin : ∀ j t, slotOf l j = some t → j < l.length := by
        intro j t hs
        rw [← slotOf_eq] at hs
        cases hl : l[j]? with
        | none => rw [hl] at hs; simp at hs
        | some o => exact (List.getElem?_eq_some_iff.1 hl).1
      have := hend D e' w' (fun j _ hj => hall j hj) hGD hL (fun t h => hA t (fun j hj _ => h j hj)) (fun j hj t hs => hV j hj (hall j (hin j t hs)) t hs)
      rw [List.drop_eq_nil_of_le hlen] at this
      exact this
    · have hlen : l.length ≤ q := by
        by_cases h : l.length ≤ q
        · exact h
        · have := hall q (by omega); rw [hnone q (Nat.le_refl _)] at this; cases this
      rw [List.drop_eq_nil_of_le hlen] at hrun
      exact hrun
end E
end Go.Proofs.YtchbidckckmobaaDoor

/- Opening a law's arguments: slices of structs with slices in them, and what their sizes are. No condition. -/
namespace Go.Proofs.YtchbidckckmobaaDoor
open Go.RowKit
set_option linter.unusedVariables false
set_option linter.unusedSimpArgs false
namespace E
section
variable {H : Type} {enc : TypeId × Value → H} {P : Program} {W : World} {base : Nat}
/-- cells that are read as a type's, all rows of them within reach -/
def Tr (enc : TypeId × Value → H) (P : Program) (W : World) (t : TypeId) (cs : List Value) : Prop :=
  ∃ m y, DataW.trod enc P W 0 (fun _ => true) true m t cs = some y ∧ ∀ n ∈ y.1.weights P t, n ≤ reachBytes
theorem Tr.any {t : TypeId} {cs : List Value} (h : Tr enc P W t cs) : ∃ m y, DataW.trod enc P W 0 (fun _ => true) true m t cs = some y := by
  obtain ⟨m, y, h, _⟩ := h; exact ⟨m, y, h⟩
theorem mem_weightsAll {e : TypeId} : ∀ {ds : List (DataW H)} {d : DataW H} {n : Nat}, d ∈ ds → n ∈ d.weights P e → n ∈ DataW.weightsAll P e ds
  | d0 :: ds, d, n, hd, hn => by
    simp only [DataW.weightsAll, List.mem_append]
    rcases List.mem_cons.1 hd with rfl | hd
    · exact .inl hn
    · exact .inr (mem_weightsAll hd hn)
theorem Tr.elems {t e : TypeId} {sz : Nat} {cs0 : List Value} (ht : P.underlying t = some (.slice e)) (hc : P.cellsOf e = sz) (hsz : 0 < sz) (h : Tr enc P W t cs0) :
    ∃ (a : Option Addr) (len cap : Nat) (css : List (List Value)), cs0 = [.slice a len cap] ∧ css.length = len ∧ len ≤ cap ∧ cap ≤ 9223372036854775807 ∧ cap * P.bytesOf e ≤ 140737488351232 ∧ (∀ cs ∈ css, cs.length = sz) ∧ Rd W a css.flatten ∧ ∀ cs ∈ css, Tr enc P W e cs := by
  subst hc
  obtain ⟨fuel, y, hf, hw⟩ := h
  rcases DataW.trod_slice ht hf with ⟨h1, h2⟩ | ⟨x, len, cap, elems, rest, m, h1, h2, h3, h4, h5, h6, h7, h8, h9, _⟩
  · exact ⟨none, 0, 0, [], h1, rfl, by omega, by omega, by omega, by simp, Rd.nil _ _, by simp⟩
  · have hcap := (h9 rfl).1
    have each : ∀ i, i < len → ∃ cs, W.cells? 0 (x.add (i * P.cellsOf e)) (P.cellsOf e) = some cs ∧ Tr enc P W e cs := by
      intro i hi
      have := h8 i hi
      rw [List.getElem?_eq_getElem (by omega)] at this
      obtain ⟨cs, hcs, hy⟩ := Option.bind_eq_some_iff.1 this
      refine ⟨cs, hcs, m, _, hy, fun n hn => hw n ?_⟩
      rw [h3]
      simp only [DataW.weights, ht, List.mem_cons, List.mem_append]
      exact .inr (.inl (mem_weightsAll (List.mem_map_of_mem (List.getElem_mem _)) hn))
    have hcell : ∀ i (hi : i < len), (Classical.choose (each i hi)).length = P.cellsOf e ∧ ∀ j v, (Classical.choose (each i hi))[j]? = some v → W.cell? ((x.add (i * P.cellsOf e)).add j) = some v := by
      intro i hi
      exact cells_spec (Classical.choose_spec (each i hi)).1
    let css : List (List Value) := List.ofFn (n := len) fun i => Classical.choose (each i.val i.isLt)
    have hcss : ∀ i (hi : i < len), css[i]? = some (Classical.choose (each i hi)) := by
      intro i hi
      simp [css, hi]
    have hl : ∀ cs ∈ css, cs.length = P.cellsOf e := by
      intro cs hcs
      obtain ⟨i, rfl⟩ := List.mem_ofFn.1 hcs
      exact (hcell i.val i.isLt).1
    refine ⟨some x, len, cap, css, h2, by simp [css], h5, by simpa [maxLen] using h6, ?_, hl, ?_, ?_⟩
    · have := hw (((elems.map (·.1)).length + (rest.map (·.1)).length) * P.bytesOf e) (by rw [h3]; simp [DataW.weights, ht])
      simp only [List.length_map, h7, hcap] at this
      rw [show len + (cap - len) = cap by omega] at this
      exact this
    · intro i v hv
      obtain ⟨cs, h9, h10⟩ := flatten_at hsz css hl i v hv
      have hi : i / P.cellsOf e < len := by
        have := (List.getElem?_eq_some_iff.1 h9).1
        simpa [css] using this
      rw [hcss _ hi] at h9
      obtain rfl := Option.some.inj h9
      have := (hcell _ hi).2 _ v h10
      have hsp : x.spot = none := by
        have h0 := hcell 0 (Nat.lt_of_le_of_lt (Nat.zero_le _) hi)
        have h1 : ∃ v, W.cell? ((x.add (0 * P.cellsOf e)).add 0) = some v := ⟨_, h0.2 0 _ (List.getElem?_eq_getElem (by rw [h0.1]; exact hsz))⟩
        obtain ⟨v1, h1⟩ := h1
        rw [Nat.zero_mul, show (x.add 0).add 0 = x from by simp [Addr.add]] at h1
        exact spot_none h1
      obtain ⟨b, o, sp⟩ := x
      simp at hsp
      subst hsp
      refine ⟨b, o, rfl, ?_⟩
      rw [Addr.add_lit, Addr.add_lit, Nat.add_assoc, Nat.mul_comm, Nat.div_add_mod] at this
      exact this
    · intro cs hcs
      obtain ⟨i, rfl⟩ := List.mem_ofFn.1 hcs
      exact (Classical.choose_spec (each i.val i.isLt)).2
theorem Tr.fld {e : TypeId} {fs : Array Field} {f : Field} {i : Nat} {cs : List Value} (h : Tr enc P W e cs) (hu : P.underlying e = some (.struct fs)) (hf : fs[i]? = some f) (hc : P.cellsOf f.type = 1) :
    Tr enc P W f.type ((cs.drop f.offset).take 1) := by
  obtain ⟨m, y, hy, hw⟩ := h
  obtain ⟨xs, n, _, hx, _, hl, hfl⟩ := DataW.trod_struct hu hy
  have := hfl i f hf
  have hi : i < fs.size := (Array.getElem?_eq_some_iff.1 hf).1
  rw [hc, List.getElem?_eq_getElem (by rw [hl]; exact hi)] at this
  refine ⟨n, _, this, fun k hk => hw k ?_⟩
  rw [hx]
  simp only [DataW.weights, hu]
  refine DataW.weights_mem_each (j := i) (t := f.type) (d := (xs[i]'(by rw [hl]; exact hi)).1) ?_ ?_ k hk
  · rw [List.getElem?_map, Array.getElem?_toList, hf]; rfl
  · rw [List.getElem?_map, List.getElem?_eq_getElem (by rw [hl]; exact hi)]; rfl
theorem Tr.row {t e : TypeId} {k : IntKind} {cs : List Value} (h : Tr enc P W t cs) (ht : P.underlying t = some (.slice e)) (he : P.underlying e = some (.int k)) (hc : P.cellsOf e = 1) :
    ∃ a len cap zs, cs = [.slice a len cap] ∧ Row k W a len cap zs ∧ cap * P.bytesOf e ≤ 140737488351232 := by
  obtain ⟨a, len, cap, css, h1, _, h2, h3, h4, _⟩ := h.elems ht hc (by decide)
  obtain ⟨a', len', cap', zs, h5, h6⟩ := trod_row h.any ht he hc
  rw [h1] at h5
  cases h5
  exact ⟨a, len, cap, zs, h1, h6, h4⟩
theorem tr_of {t : TypeId} {v : Value} {d : DataW H} {p : List MemPlace} (h : DataW.Trod enc P W 0 (fun _ => true) true t v d p) (hw : ∀ n ∈ d.weights P t, n ≤ reachBytes) : Tr enc P W t v.cells.toList := by
  obtain ⟨fuel, hf⟩ := h
  exact ⟨fuel, _, hf, hw⟩
theorem fit_of {ts : List TypeId} {ds : List (DataW H)} (h : (DataW.weightsEach P ts ds).all (· ≤ reachBytes) = true) {j : Nat} {t : TypeId} {d : DataW H} (ht : ts[j]? = some t) (hd : ds[j]? = some d) : ∀ n ∈ d.weights P t, n ≤ reachBytes := by
  intro n hn
  have := List.all_eq_true.1 h _ (DataW.weights_mem_each ht hd n hn)
  simpa using this
/-- an argument that is a slice whose elements are of sz cells -/
theorem op_deep {t e : TypeId} {sz : Nat} {v : Value} {d : DataW H} {p : List MemPlace} (ht : P.underlying t = some (.slice e)) (hc : P.cellsOf e = sz) (hsz : 0 < sz) (hok : Value.okWide P W .any base t v) (h : DataW.Trod enc P W 0 (fun _ => true) true t v d p) (hw : ∀ n ∈ d.weights P t, n ≤ reachBytes) :
    ∃ (a : Option Addr) (len cap : Nat) (css : List (List Value)), v = .slice a len cap ∧ css.length = len ∧ len ≤ cap ∧ cap ≤ 9223372036854775807 ∧ cap * P.bytesOf e ≤ 140737488351232 ∧ (∀ cs ∈ css, cs.length = sz) ∧ Rd W a css.flatten ∧ ∀ cs ∈ css, Tr enc P W e cs := by
  obtain ⟨a, len, cap, rfl⟩ := WideShapes.okWide_slice ht hok
  obtain ⟨a', len', cap', css, h1, h2⟩ := (tr_of h hw).elems ht hc hsz
  simp only [Value.cells] at h1
  cases h1
  exact ⟨a, len, cap, css, rfl, h2⟩
end
end E
end Go.Proofs.YtchbidckckmobaaDoor

/- The heads of blocks: the walks of Head, of the program and of the document. No condition beyond what each contract names. -/
namespace Go.Proofs.YtchbidckckmobaaDoor
open Go.RowKit E
set_option linter.unusedVariables false
set_option linter.unusedSimpArgs false
set_option maxRecDepth 100000
attribute [local irreducible] ow qw kw kq cw opW Ret
/-- numbers that make a head -/
def hOk (kind cl n mask : Int) : Prop := 1 ≤ kind ∧ kind ≤ 3 ∧ 0 ≤ cl ∧ cl ≤ 65535 ∧ 0 ≤ n ∧ n ≤ 65536 ∧ (kind ≠ 1 → mask = 0) ∧ (kind = 1 → n ≤ 32 ∧ 0 ≤ mask ∧ mask < 2 ^ n.toNat)
instance (kind cl n mask : Int) : Decidable (hOk kind cl n mask) := by unfold hOk; infer_instance
def headW (kind cl n mask : Int) : Int × Int := if hOk kind cl n mask then (kind + 4 * cl + 262144 * n + 16777216 * mask, 0) else (0, 1)
theorem head_yes {kind cl n mask : Int} (h : hOk kind cl n mask) : headW kind cl n mask = (kind + 4 * cl + 262144 * n + 16777216 * mask, 0) := if_pos h
theorem head_no {kind cl n mask : Int} (h : ¬ hOk kind cl n mask) : headW kind cl n mask = (0, 1) := if_neg h
theorem tup2 {kind cl n mask : Int} {p : Int × Int} (h : headW kind cl n mask = p) : Value.tuple #[.int .i64 p.1, .int .i64 p.2] = .tuple #[.int .i64 (headW kind cl n mask).1, .int .i64 (headW kind cl n mask).2] := by rw [h]

theorem orA (a b i : Nat) (h : a < 2 ^ i) : a ||| b <<< i = a + b * 2 ^ i := by
  rw [Nat.or_comm, ← Nat.shiftLeft_add_eq_or_of_lt h, Nat.shiftLeft_eq]; omega
theorem ofZ (x : Int) : (BitVec.ofInt 64 x).toNat = (x % 18446744073709551616).toNat := by
  rw [BitVec.toNat_ofInt]; rfl
theorem pow32 (n : Nat) (h : n ≤ 32) : 2 ^ n ≤ 4294967296 := Nat.pow_le_pow_right (n := 2) (by decide) h
theorem head_val (kind cl n mask : Int) (h : hOk kind cl n mask) :
    (((BitVec.ofInt 64 kind ||| BitVec.ofInt 64 cl <<< 2) ||| BitVec.ofInt 64 n <<< 18) ||| BitVec.ofInt 64 mask <<< 24).toInt = kind + 4 * cl + 262144 * n + 16777216 * mask := by
  obtain ⟨h1, h2, h3, h4, h5, h6, h7, h8⟩ := h
  have hm : 0 ≤ mask ∧ mask < 4294967296 := by
    by_cases hk : kind = 1
    · have := h8 hk
      have hp := pow32 n.toNat (by omega)
      have : mask < ((2 ^ n.toNat : Nat) : Int) := by simpa using this.2.2
      omega
    · have := h7 hk; omega
  have h9 : kind = 1 → n ≤ 32 := fun hk => (h8 hk).1
  clear h8
  obtain ⟨k, rfl⟩ : ∃ k : Nat, kind = k := ⟨kind.toNat, by omega⟩
  obtain ⟨c, rfl⟩ : ∃ k : Nat, cl = k := ⟨cl.toNat, by omega⟩
  obtain ⟨l, rfl⟩ : ∃ k : Nat, n = k := ⟨n.toNat, by omega⟩
  obtain ⟨m, rfl⟩ : ∃ k : Nat, mask = k := ⟨mask.toNat, by omega⟩
  have e : (((BitVec.ofInt 64 (k : Int) ||| BitVec.ofInt 64 (c : Int) <<< 2) ||| BitVec.ofInt 64 (l : Int) <<< 18) ||| BitVec.ofInt 64 (m : Int) <<< 24).toNat = k + 4 * c + 262144 * l + 16777216 * m := by
    rw [BitVec.toNat_or, BitVec.toNat_or, BitVec.toNat_or, BitVec.toNat_shiftLeft, BitVec.toNat_shiftLeft, BitVec.toNat_shiftLeft, ofN k (by omega), ofN c (by omega), ofN l (by omega), ofN m (by omega)]
    rw [Nat.mod_eq_of_lt (a := c <<< 2) (by rw [Nat.shiftLeft_eq]; omega), Nat.mod_eq_of_lt (a := l <<< 18) (by rw [Nat.shiftLeft_eq]; omega), Nat.mod_eq_of_lt (a := m <<< 24) (by rw [Nat.shiftLeft_eq]; omega)]
    rw [orA k c 2 (by omega), orA (k + c * 2 ^ 2) l 18 (by omega)]
    by_cases hk : k = 1
    · rw [orA _ m 24 (by omega)]; omega
    · have : m = 0 := by omega
      subst this
      rw [Nat.zero_shiftLeft, Nat.or_zero]; omega
  rw [BitVec.toInt_eq_toNat_of_lt (by rw [e]; omega), e]
  omega
theorem shr0 (mask : Int) (n : Int) (hm : -9223372036854775808 ≤ mask ∧ mask ≤ 9223372036854775807) (hn : 0 ≤ n ∧ n ≤ 32) :
    (BitVec.ofInt 64 mask) >>> (BitVec.ofInt 64 n).toNat = 0#64 ↔ 0 ≤ mask ∧ mask < 2 ^ n.toNat := by
  obtain ⟨l, rfl⟩ : ∃ k : Nat, n = k := ⟨n.toNat, by omega⟩
  have hp := pow32 l (by omega)
  rw [ofN l (by omega), Int.toNat_natCast]
  have e : (BitVec.ofInt 64 mask) >>> l = 0#64 ↔ (BitVec.ofInt 64 mask).toNat / 2 ^ l = 0 := by
    constructor
    · intro h
      have := congrArg BitVec.toNat h
      rw [BitVec.toNat_ushiftRight, Nat.shiftRight_eq_div_pow] at this
      simpa using this
    · intro h
      apply BitVec.eq_of_toNat_eq
      rw [BitVec.toNat_ushiftRight, Nat.shiftRight_eq_div_pow, h]
      rfl
  have e2 : (2 : Int) ^ l = ((2 ^ l : Nat) : Int) := by simp
  rw [e, Nat.div_eq_zero_iff, ofZ, e2]
  have hp0 : 0 < 2 ^ l := Nat.pow_pos (by decide)
  omega

theorem head_ok (w : World) (kind cl n mask : Int) (hc : -9223372036854775808 ≤ cl ∧ cl ≤ 9223372036854775807) (hn : -9223372036854775808 ≤ n ∧ n ≤ 9223372036854775807) (hm : -9223372036854775808 ≤ mask ∧ mask ≤ 9223372036854775807) :
    Ret Tryd.prog 66 [.int .i64 kind, .int .i64 cl, .int .i64 n, .int .i64 mask] w (fun v w' => v = .tuple #[.int .i64 (headW kind cl n mask).1, .int .i64 (headW kind cl n mask).2] ∧ w' = w) := by
  have fc : (65535 < ((BitVec.ofInt 64 cl).toNat : Int)) ↔ ¬ (0 ≤ cl ∧ cl ≤ 65535) := by rw [ofZ]; omega
  have fn : (65536 < ((BitVec.ofInt 64 n).toNat : Int)) ↔ ¬ (0 ≤ n ∧ n ≤ 65536) := by rw [ofZ]; omega
  refine fn_enter (n := 65) Tryd.func66 rfl rfl (Nat.le_of_ble_eq_true rfl) (fun e => ?_)
  refine k_seq ?_
  refine k_region ?_
  refine m_int rfl rfl ?_
  refine m_int rfl rfl ?_
  refine o_nil ?_
  refine k_seq ?_
  refine k_seq ?_
  refine k_region ?_
  refine m_int rfl rfl ?_
  refine b_lss rfl rfl ?_
  refine m_bool rfl rfl ?_
  refine o_split (t := 13) rfl (fun h => ?_) (fun h => ?_)
  ·
    refine g_no rfl rfl rfl ?_
    refine g_no rfl rfl rfl ?_
    refine pick_t rfl rfl ?_
    refine m_bool rfl rfl ?_
    refine g_no rfl rfl rfl ?_
    refine g_no rfl rfl rfl ?_
    refine g_no rfl rfl rfl ?_
    refine pick_t rfl rfl ?_
    refine m_bool rfl rfl ?_
    refine g_no rfl rfl rfl ?_
    refine g_no rfl rfl rfl ?_
    refine g_no rfl rfl rfl ?_
    refine pick_t rfl rfl ?_
    refine o_nil ?_
    refine k_condt rfl ?_
    refine k_seq ?_
    refine k_region ?_
    refine m_int rfl rfl ?_
    refine m_int rfl rfl ?_
    refine o_nil ?_
    refine k_ret (ret_tmps (ts := [8, 9]) (v := .tuple #[.int _ _, .int _ _]) rfl rfl ?_)
    refine ⟨?_, rfl⟩
    first
     | exact tup2 (head_no (fun H => by unfold hOk at H; omega))
     | (have H : hOk kind cl n mask := by
         unfold hOk
         first | omega | (have hq := fm.1 (by first | assumption | exact Decidable.of_not_not (by assumption)); omega)
        have hv := head_val _ _ _ _ H
        rw [head_yes H]
        exact congrArg (fun x => Value.tuple #[.int .i64 x, .int .i64 0]) hv)
     | exact tup2 (head_no (fun H => by
         have hq := fm.2 (by unfold hOk at H; omega)
         contradiction))
  ·
    refine g_yes rfl rfl ?_
    refine m_int rfl rfl ?_
    refine g_yes rfl rfl ?_
    refine b_gtr rfl rfl ?_
    refine pick_f rfl rfl ?_
    refine m_bool rfl rfl ?_
    refine o_split (t := 17) rfl (fun h => ?_) (fun h => ?_)
    ·
      refine g_no rfl rfl rfl ?_
      refine g_no rfl rfl rfl ?_
      refine g_no rfl rfl rfl ?_
      refine pick_t rfl rfl ?_
      refine m_bool rfl rfl ?_
      refine g_no rfl rfl rfl ?_
      refine g_no rfl rfl rfl ?_
      refine g_no rfl rfl rfl ?_
      refine pick_t rfl rfl ?_
      refine o_nil ?_
      refine k_condt rfl ?_
      refine k_seq ?_
      refine k_region ?_
      refine m_int rfl rfl ?_
      refine m_int rfl rfl ?_
      refine o_nil ?_
      refine k_ret (ret_tmps (ts := [8, 9]) (v := .tuple #[.int _ _, .int _ _]) rfl rfl ?_)
      refine ⟨?_, rfl⟩
      first
       | exact tup2 (head_no (fun H => by unfold hOk at H; omega))
       | (have H : hOk kind cl n mask := by
           unfold hOk
           first | omega | (have hq := fm.1 (by first | assumption | exact Decidable.of_not_not (by assumption)); omega)
          have hv := head_val _ _ _ _ H
          rw [head_yes H]
          exact congrArg (fun x => Value.tuple #[.int .i64 x, .int .i64 0]) hv)
       | exact tup2 (head_no (fun H => by
           have hq := fm.2 (by unfold hOk at H; omega)
           contradiction))
    ·
      refine g_yes rfl rfl ?_
      refine m_int rfl rfl ?_
      refine g_yes rfl rfl ?_
      refine cv64 rfl Tryd.underlying49 rfl ?_
      refine g_yes rfl rfl ?_
      refine b_gtr rfl rfl ?_
      refine pick_f rfl rfl ?_
      refine m_bool rfl rfl ?_
      refine o_split (t := 22) rfl (fun h => ?_) (fun h => ?_)
      ·
        have h' := fc.1 h
        refine g_no rfl rfl rfl ?_
        refine g_no rfl rfl rfl ?_
        refine g_no rfl rfl rfl ?_
        refine pick_t rfl rfl ?_
        refine o_nil ?_
        refine k_condt rfl ?_
        refine k_seq ?_
        refine k_region ?_
        refine m_int rfl rfl ?_
        refine m_int rfl rfl ?_
        refine o_nil ?_
        refine k_ret (ret_tmps (ts := [8, 9]) (v := .tuple #[.int _ _, .int _ _]) rfl rfl ?_)
        refine ⟨?_, rfl⟩
        first
         | exact tup2 (head_no (fun H => by unfold hOk at H; omega))
         | (have H : hOk kind cl n mask := by
             unfold hOk
             first | omega | (have hq := fm.1 (by first | assumption | exact Decidable.of_not_not (by assumption)); omega)
            have hv := head_val _ _ _ _ H
            rw [head_yes H]
            exact congrArg (fun x => Value.tuple #[.int .i64 x, .int .i64 0]) hv)
         | exact tup2 (head_no (fun H => by
             have hq := fm.2 (by unfold hOk at H; omega)
             contradiction))
      ·
        have h' : 0 ≤ cl ∧ cl ≤ 65535 := by omega
        refine g_yes rfl rfl ?_
        refine m_int rfl rfl ?_
        refine g_yes rfl rfl ?_
        refine cv64 rfl Tryd.underlying49 rfl ?_
        refine g_yes rfl rfl ?_
        refine b_gtr rfl rfl ?_
        refine pick_f rfl rfl ?_
        refine o_nil ?_
        refine k_cond rfl (fun h => ?_) (fun h => ?_)
        ·
          have h'' := fn.1 h
          refine k_seq ?_
          refine k_region ?_
          refine m_int rfl rfl ?_
          refine m_int rfl rfl ?_
          refine o_nil ?_
          refine k_ret (ret_tmps (ts := [8, 9]) (v := .tuple #[.int _ _, .int _ _]) rfl rfl ?_)
          refine ⟨?_, rfl⟩
          first
           | exact tup2 (head_no (fun H => by unfold hOk at H; omega))
           | (have H : hOk kind cl n mask := by
               unfold hOk
               first | omega | (have hq := fm.1 (by first | assumption | exact Decidable.of_not_not (by assumption)); omega)
              have hv := head_val _ _ _ _ H
              rw [head_yes H]
              exact congrArg (fun x => Value.tuple #[.int .i64 x, .int .i64 0]) hv)
           | exact tup2 (head_no (fun H => by
               have hq := fm.2 (by unfold hOk at H; omega)
               contradiction))
        have h'' : 0 ≤ n ∧ n ≤ 65536 := by omega
        refine k_skip ?_
        refine k_seq ?_
        refine k_seq ?_
        refine k_region ?_
        refine m_int rfl rfl ?_
        refine b_gtr rfl rfl ?_
        refine m_bool rfl rfl ?_
        refine o_split (t := 29) rfl (fun h => ?_) (fun h => ?_)
        ·
          refine g_yes rfl rfl ?_
          refine m_int rfl rfl ?_
          refine g_yes rfl rfl ?_
          refine b_neq rfl rfl ?_
          refine pick_t rfl rfl ?_
          refine m_bool rfl rfl ?_
          refine o_split (t := 33) rfl (fun h => ?_) (fun h => ?_)
          ·
            refine g_no rfl rfl rfl ?_
            refine g_no rfl rfl rfl ?_
            refine g_no rfl rfl rfl ?_
            refine g_un rfl rfl ?_
            refine g_un rfl rfl ?_
            refine g_un rfl rfl ?_
            refine g_un rfl rfl ?_
            refine g_un rfl rfl ?_
            refine g_un rfl rfl ?_
            refine g_un rfl rfl ?_
            refine g_un rfl rfl ?_
            refine g_un rfl rfl ?_
            refine g_un rfl rfl ?_
            refine g_no rfl rfl rfl ?_
            refine pick_t rfl rfl ?_
            refine o_nil ?_
            refine k_condt rfl ?_
            refine k_seq ?_
            refine k_region ?_
            refine m_int rfl rfl ?_
            refine m_int rfl rfl ?_
            refine o_nil ?_
            refine k_ret (ret_tmps (ts := [8, 9]) (v := .tuple #[.int _ _, .int _ _]) rfl rfl ?_)
            refine ⟨?_, rfl⟩
            first
             | exact tup2 (head_no (fun H => by unfold hOk at H; omega))
             | (have H : hOk kind cl n mask := by
                 unfold hOk
                 first | omega | (have hq := fm.1 (by first | assumption | exact Decidable.of_not_not (by assumption)); omega)
                have hv := head_val _ _ _ _ H
                rw [head_yes H]
                exact congrArg (fun x => Value.tuple #[.int .i64 x, .int .i64 0]) hv)
             | exact tup2 (head_no (fun H => by
                 have hq := fm.2 (by unfold hOk at H; omega)
                 contradiction))
          ·
            refine g_yes rfl rfl ?_
            refine m_int rfl rfl ?_
            refine g_yes rfl rfl ?_
            refine b_eql rfl rfl ?_
            refine g_yes rfl rfl ?_
            refine m_bool rfl rfl ?_
            refine o_split (t := 36) rfl (fun h => ?_) (fun h => ?_)
            ·
              refine g_yes rfl rfl ?_
              refine m_int rfl rfl ?_
              refine g_yes rfl rfl ?_
              refine b_gtr rfl rfl ?_
              refine g_yes rfl rfl ?_
              refine m_bool rfl rfl ?_
              refine o_split (t := 39) rfl (fun h => ?_) (fun h => ?_)
              ·
                refine g_no rfl rfl rfl ?_
                refine g_no rfl rfl rfl ?_
                refine g_no rfl rfl rfl ?_
                refine g_no rfl rfl rfl ?_
                refine g_no rfl rfl rfl ?_
                refine g_no rfl rfl rfl ?_
                refine g_yes rfl rfl ?_
                refine pick_t rfl rfl ?_
                refine g_yes rfl rfl ?_
                refine pick_t rfl rfl ?_
                refine pick_f rfl rfl ?_
                refine o_nil ?_
                refine k_condt rfl ?_
                refine k_seq ?_
                refine k_region ?_
                refine m_int rfl rfl ?_
                refine m_int rfl rfl ?_
                refine o_nil ?_
                refine k_ret (ret_tmps (ts := [8, 9]) (v := .tuple #[.int _ _, .int _ _]) rfl rfl ?_)
                refine ⟨?_, rfl⟩
                first
                 | exact tup2 (head_no (fun H => by unfold hOk at H; omega))
                 | (have H : hOk kind cl n mask := by
                     unfold hOk
                     first | omega | (have hq := fm.1 (by first | assumption | exact Decidable.of_not_not (by assumption)); omega)
                    have hv := head_val _ _ _ _ H
                    rw [head_yes H]
                    exact congrArg (fun x => Value.tuple #[.int .i64 x, .int .i64 0]) hv)
                 | exact tup2 (head_no (fun H => by
                     have hq := fm.2 (by unfold hOk at H; omega)
                     contradiction))
              ·
                have fm := shr0 mask n hm (by omega)
                refine g_yes rfl rfl ?_
                refine m_int rfl rfl ?_
                refine g_yes rfl rfl ?_
                refine cv64 rfl Tryd.underlying105 rfl ?_
                refine g_yes rfl rfl ?_
                refine m_int rfl rfl ?_
                refine g_yes rfl rfl ?_
                refine cv64 rfl Tryd.underlying49 rfl ?_
                refine g_yes rfl rfl ?_
                refine v64_shrn rfl rfl ?_
                refine g_yes rfl rfl ?_
                refine v64_neq (b := 0#64) rfl rfl ?_
                refine g_yes rfl rfl ?_
                refine pick_f rfl rfl ?_
                refine g_yes rfl rfl ?_
                refine pick_t rfl rfl ?_
                refine pick_f rfl rfl ?_
                refine o_nil ?_
                refine k_cond rfl (fun h => ?_) (fun h => ?_)
                ·
                  refine k_seq ?_
                  refine k_region ?_
                  refine m_int rfl rfl ?_
                  refine m_int rfl rfl ?_
                  refine o_nil ?_
                  refine k_ret (ret_tmps (ts := [8, 9]) (v := .tuple #[.int _ _, .int _ _]) rfl rfl ?_)
                  refine ⟨?_, rfl⟩
                  first
                   | exact tup2 (head_no (fun H => by unfold hOk at H; omega))
                   | (have H : hOk kind cl n mask := by
                       unfold hOk
                       first | omega | (have hq := fm.1 (by first | assumption | exact Decidable.of_not_not (by assumption)); omega)
                      have hv := head_val _ _ _ _ H
                      rw [head_yes H]
                      exact congrArg (fun x => Value.tuple #[.int .i64 x, .int .i64 0]) hv)
                   | exact tup2 (head_no (fun H => by
                       have hq := fm.2 (by unfold hOk at H; omega)
                       contradiction))
                refine k_skip ?_
                refine k_seq ?_
                refine k_region ?_
                refine m_int rfl rfl ?_
                refine cv64 rfl Tryd.underlying105 rfl ?_
                refine m_int rfl rfl ?_
                refine cv64 rfl Tryd.underlying105 rfl ?_
                refine v64_shln (c := 2) rfl rfl ?_
                refine v64_or rfl rfl ?_
                refine m_int rfl rfl ?_
                refine cv64 rfl Tryd.underlying105 rfl ?_
                refine v64_shln (c := 18) rfl rfl ?_
                refine v64_or rfl rfl ?_
                refine m_int rfl rfl ?_
                refine cv64 rfl Tryd.underlying105 rfl ?_
                refine v64_shln (c := 24) rfl rfl ?_
                refine v64_or rfl rfl ?_
                refine m_int rfl rfl ?_
                refine o_nil ?_
                refine k_seq ?_
                refine k_region ?_
                refine m_int rfl rfl ?_
                refine cv64_i rfl Tryd.underlying2 rfl ?_
                refine m_int rfl rfl ?_
                refine m_int rfl rfl ?_
                refine o_nil ?_
                refine k_ret (ret_tmps (ts := [8, 9]) (v := .tuple #[.int _ _, .int _ _]) rfl rfl ?_)
                refine ⟨?_, rfl⟩
                first
                 | exact tup2 (head_no (fun H => by unfold hOk at H; omega))
                 | (have H : hOk kind cl n mask := by
                     unfold hOk
                     first | omega | (have hq := fm.1 (by first | assumption | exact Decidable.of_not_not (by assumption)); omega)
                    have hv := head_val _ _ _ _ H
                    rw [head_yes H]
                    exact congrArg (fun x => Value.tuple #[.int .i64 x, .int .i64 0]) hv)
                 | exact tup2 (head_no (fun H => by
                     have hq := fm.2 (by unfold hOk at H; omega)
                     contradiction))
            ·
              refine g_no rfl rfl rfl ?_
              refine g_no rfl rfl rfl ?_
              refine g_no rfl rfl rfl ?_
              refine g_un rfl rfl ?_
              refine g_un rfl rfl ?_
              refine g_un rfl rfl ?_
              refine g_un rfl rfl ?_
              refine g_un rfl rfl ?_
              refine g_un rfl rfl ?_
              refine g_no rfl rfl rfl ?_
              refine g_yes rfl rfl ?_
              refine pick_f rfl rfl ?_
              refine pick_f rfl rfl ?_
              refine o_nil ?_
              refine k_condf rfl ?_
              refine k_skip ?_
              refine k_seq ?_
              refine k_region ?_
              refine m_int rfl rfl ?_
              refine cv64 rfl Tryd.underlying105 rfl ?_
              refine m_int rfl rfl ?_
              refine cv64 rfl Tryd.underlying105 rfl ?_
              refine v64_shln (c := 2) rfl rfl ?_
              refine v64_or rfl rfl ?_
              refine m_int rfl rfl ?_
              refine cv64 rfl Tryd.underlying105 rfl ?_
              refine v64_shln (c := 18) rfl rfl ?_
              refine v64_or rfl rfl ?_
              refine m_int rfl rfl ?_
              refine cv64 rfl Tryd.underlying105 rfl ?_
              refine v64_shln (c := 24) rfl rfl ?_
              refine v64_or rfl rfl ?_
              refine m_int rfl rfl ?_
              refine o_nil ?_
              refine k_seq ?_
              refine k_region ?_
              refine m_int rfl rfl ?_
              refine cv64_i rfl Tryd.underlying2 rfl ?_
              refine m_int rfl rfl ?_
              refine m_int rfl rfl ?_
              refine o_nil ?_
              refine k_ret (ret_tmps (ts := [8, 9]) (v := .tuple #[.int _ _, .int _ _]) rfl rfl ?_)
              refine ⟨?_, rfl⟩
              first
               | exact tup2 (head_no (fun H => by unfold hOk at H; omega))
               | (have H : hOk kind cl n mask := by
                   unfold hOk
                   first | omega | (have hq := fm.1 (by first | assumption | exact Decidable.of_not_not (by assumption)); omega)
                  have hv := head_val _ _ _ _ H
                  rw [head_yes H]
                  exact congrArg (fun x => Value.tuple #[.int .i64 x, .int .i64 0]) hv)
               | exact tup2 (head_no (fun H => by
                   have hq := fm.2 (by unfold hOk at H; omega)
                   contradiction))
        ·
          refine g_no rfl rfl rfl ?_
          refine g_no rfl rfl rfl ?_
          refine pick_f rfl rfl ?_
          refine m_bool rfl rfl ?_
          refine g_yes rfl rfl ?_
          refine m_int rfl rfl ?_
          refine g_yes rfl rfl ?_
          refine b_eql rfl rfl ?_
          refine g_yes rfl rfl ?_
          refine m_bool rfl rfl ?_
          refine o_split (t := 36) rfl (fun h => ?_) (fun h => ?_)
          ·
            refine g_yes rfl rfl ?_
            refine m_int rfl rfl ?_
            refine g_yes rfl rfl ?_
            refine b_gtr rfl rfl ?_
            refine g_yes rfl rfl ?_
            refine m_bool rfl rfl ?_
            refine o_split (t := 39) rfl (fun h => ?_) (fun h => ?_)
            ·
              refine g_no rfl rfl rfl ?_
              refine g_no rfl rfl rfl ?_
              refine g_no rfl rfl rfl ?_
              refine g_no rfl rfl rfl ?_
              refine g_no rfl rfl rfl ?_
              refine g_no rfl rfl rfl ?_
              refine g_yes rfl rfl ?_
              refine pick_t rfl rfl ?_
              refine g_yes rfl rfl ?_
              refine pick_t rfl rfl ?_
              refine pick_f rfl rfl ?_
              refine o_nil ?_
              refine k_condt rfl ?_
              refine k_seq ?_
              refine k_region ?_
              refine m_int rfl rfl ?_
              refine m_int rfl rfl ?_
              refine o_nil ?_
              refine k_ret (ret_tmps (ts := [8, 9]) (v := .tuple #[.int _ _, .int _ _]) rfl rfl ?_)
              refine ⟨?_, rfl⟩
              first
               | exact tup2 (head_no (fun H => by unfold hOk at H; omega))
               | (have H : hOk kind cl n mask := by
                   unfold hOk
                   first | omega | (have hq := fm.1 (by first | assumption | exact Decidable.of_not_not (by assumption)); omega)
                  have hv := head_val _ _ _ _ H
                  rw [head_yes H]
                  exact congrArg (fun x => Value.tuple #[.int .i64 x, .int .i64 0]) hv)
               | exact tup2 (head_no (fun H => by
                   have hq := fm.2 (by unfold hOk at H; omega)
                   contradiction))
            ·
              have fm := shr0 mask n hm (by omega)
              refine g_yes rfl rfl ?_
              refine m_int rfl rfl ?_
              refine g_yes rfl rfl ?_
              refine cv64 rfl Tryd.underlying105 rfl ?_
              refine g_yes rfl rfl ?_
              refine m_int rfl rfl ?_
              refine g_yes rfl rfl ?_
              refine cv64 rfl Tryd.underlying49 rfl ?_
              refine g_yes rfl rfl ?_
              refine v64_shrn rfl rfl ?_
              refine g_yes rfl rfl ?_
              refine v64_neq (b := 0#64) rfl rfl ?_
              refine g_yes rfl rfl ?_
              refine pick_f rfl rfl ?_
              refine g_yes rfl rfl ?_
              refine pick_t rfl rfl ?_
              refine pick_f rfl rfl ?_
              refine o_nil ?_
              refine k_cond rfl (fun h => ?_) (fun h => ?_)
              ·
                refine k_seq ?_
                refine k_region ?_
                refine m_int rfl rfl ?_
                refine m_int rfl rfl ?_
                refine o_nil ?_
                refine k_ret (ret_tmps (ts := [8, 9]) (v := .tuple #[.int _ _, .int _ _]) rfl rfl ?_)
                refine ⟨?_, rfl⟩
                first
                 | exact tup2 (head_no (fun H => by unfold hOk at H; omega))
                 | (have H : hOk kind cl n mask := by
                     unfold hOk
                     first | omega | (have hq := fm.1 (by first | assumption | exact Decidable.of_not_not (by assumption)); omega)
                    have hv := head_val _ _ _ _ H
                    rw [head_yes H]
                    exact congrArg (fun x => Value.tuple #[.int .i64 x, .int .i64 0]) hv)
                 | exact tup2 (head_no (fun H => by
                     have hq := fm.2 (by unfold hOk at H; omega)
                     contradiction))
              refine k_skip ?_
              refine k_seq ?_
              refine k_region ?_
              refine m_int rfl rfl ?_
              refine cv64 rfl Tryd.underlying105 rfl ?_
              refine m_int rfl rfl ?_
              refine cv64 rfl Tryd.underlying105 rfl ?_
              refine v64_shln (c := 2) rfl rfl ?_
              refine v64_or rfl rfl ?_
              refine m_int rfl rfl ?_
              refine cv64 rfl Tryd.underlying105 rfl ?_
              refine v64_shln (c := 18) rfl rfl ?_
              refine v64_or rfl rfl ?_
              refine m_int rfl rfl ?_
              refine cv64 rfl Tryd.underlying105 rfl ?_
              refine v64_shln (c := 24) rfl rfl ?_
              refine v64_or rfl rfl ?_
              refine m_int rfl rfl ?_
              refine o_nil ?_
              refine k_seq ?_
              refine k_region ?_
              refine m_int rfl rfl ?_
              refine cv64_i rfl Tryd.underlying2 rfl ?_
              refine m_int rfl rfl ?_
              refine m_int rfl rfl ?_
              refine o_nil ?_
              refine k_ret (ret_tmps (ts := [8, 9]) (v := .tuple #[.int _ _, .int _ _]) rfl rfl ?_)
              refine ⟨?_, rfl⟩
              first
               | exact tup2 (head_no (fun H => by unfold hOk at H; omega))
               | (have H : hOk kind cl n mask := by
                   unfold hOk
                   first | omega | (have hq := fm.1 (by first | assumption | exact Decidable.of_not_not (by assumption)); omega)
                  have hv := head_val _ _ _ _ H
                  rw [head_yes H]
                  exact congrArg (fun x => Value.tuple #[.int .i64 x, .int .i64 0]) hv)
               | exact tup2 (head_no (fun H => by
                   have hq := fm.2 (by unfold hOk at H; omega)
                   contradiction))
          ·
            refine g_no rfl rfl rfl ?_
            refine g_no rfl rfl rfl ?_
            refine g_no rfl rfl rfl ?_
            refine g_un rfl rfl ?_
            refine g_un rfl rfl ?_
            refine g_un rfl rfl ?_
            refine g_un rfl rfl ?_
            refine g_un rfl rfl ?_
            refine g_un rfl rfl ?_
            refine g_no rfl rfl rfl ?_
            refine g_yes rfl rfl ?_
            refine pick_f rfl rfl ?_
            refine pick_f rfl rfl ?_
            refine o_nil ?_
            refine k_condf rfl ?_
            refine k_skip ?_
            refine k_seq ?_
            refine k_region ?_
            refine m_int rfl rfl ?_
            refine cv64 rfl Tryd.underlying105 rfl ?_
            refine m_int rfl rfl ?_
            refine cv64 rfl Tryd.underlying105 rfl ?_
            refine v64_shln (c := 2) rfl rfl ?_
            refine v64_or rfl rfl ?_
            refine m_int rfl rfl ?_
            refine cv64 rfl Tryd.underlying105 rfl ?_
            refine v64_shln (c := 18) rfl rfl ?_
            refine v64_or rfl rfl ?_
            refine m_int rfl rfl ?_
            refine cv64 rfl Tryd.underlying105 rfl ?_
            refine v64_shln (c := 24) rfl rfl ?_
            refine v64_or rfl rfl ?_
            refine m_int rfl rfl ?_
            refine o_nil ?_
            refine k_seq ?_
            refine k_region ?_
            refine m_int rfl rfl ?_
            refine cv64_i rfl Tryd.underlying2 rfl ?_
            refine m_int rfl rfl ?_
            refine m_int rfl rfl ?_
            refine o_nil ?_
            refine k_ret (ret_tmps (ts := [8, 9]) (v := .tuple #[.int _ _, .int _ _]) rfl rfl ?_)
            refine ⟨?_, rfl⟩
            first
             | exact tup2 (head_no (fun H => by unfold hOk at H; omega))
             | (have H : hOk kind cl n mask := by
                 unfold hOk
                 first | omega | (have hq := fm.1 (by first | assumption | exact Decidable.of_not_not (by assumption)); omega)
                have hv := head_val _ _ _ _ H
                rw [head_yes H]
                exact congrArg (fun x => Value.tuple #[.int .i64 x, .int .i64 0]) hv)
             | exact tup2 (head_no (fun H => by
                 have hq := fm.2 (by unfold hOk at H; omega)
                 contradiction))
end Go.Proofs.YtchbidckckmobaaDoor

/- The walks of the document's Head and of both Open. No condition beyond what each contract names. -/
namespace Go.Proofs.YtchbidckckmobaaDoor
open Go.RowKit E
set_option linter.unusedVariables false
set_option linter.unusedSimpArgs false
set_option maxRecDepth 100000
attribute [local irreducible] ow qw kw kq cw opW Ret
theorem ipow32 (i : Nat) (h : i ≤ 32) : (1 : Int) ≤ 2 ^ i ∧ (2 : Int) ^ i ≤ 4294967296 := by
  have h1 := pow32 i h
  have h2 : 0 < 2 ^ i := Nat.pow_pos (by decide)
  have e2 : (2 : Int) ^ i = ((2 ^ i : Nat) : Int) := by simp
  rw [e2]; omega
theorem rhead_ok (w : World) (kind cl n mask : Int) (hm : -9223372036854775808 ≤ mask ∧ mask ≤ 9223372036854775807) :
    Ret Tryd.prog 73 [.int .i64 kind, .int .i64 cl, .int .i64 n, .int .i64 mask] w (fun v w' => v = .tuple #[.int .i64 (headW kind cl n mask).1, .int .i64 (headW kind cl n mask).2] ∧ w' = w) := by
  refine fn_enter (n := 76) Tryd.func73 rfl rfl (Nat.le_of_ble_eq_true rfl) (fun e => ?_)
  refine k_seq ?_
  refine k_region ?_
  refine m_int rfl rfl ?_
  refine m_int rfl rfl ?_
  refine o_nil ?_
  refine k_seq ?_
  refine k_seq ?_
  refine k_region ?_
  refine m_int rfl rfl ?_
  refine b_lss rfl rfl ?_
  refine m_bool rfl rfl ?_
  refine o_split (t := 14) rfl (fun h => ?_) (fun h => ?_)
  ·
    refine g_no rfl rfl rfl ?_
    refine g_no rfl rfl rfl ?_
    refine pick_t rfl rfl ?_
    refine m_bool rfl rfl ?_
    refine g_no rfl rfl rfl ?_
    refine g_no rfl rfl rfl ?_
    refine pick_t rfl rfl ?_
    refine m_bool rfl rfl ?_
    refine g_no rfl rfl rfl ?_
    refine g_no rfl rfl rfl ?_
    refine pick_t rfl rfl ?_
    refine m_bool rfl rfl ?_
    refine g_no rfl rfl rfl ?_
    refine g_no rfl rfl rfl ?_
    refine pick_t rfl rfl ?_
    refine m_bool rfl rfl ?_
    refine g_no rfl rfl rfl ?_
    refine g_no rfl rfl rfl ?_
    refine pick_t rfl rfl ?_
    refine m_bool rfl rfl ?_
    refine g_no rfl rfl rfl ?_
    refine g_no rfl rfl rfl ?_
    refine pick_t rfl rfl ?_
    refine o_nil ?_
    refine k_condt rfl ?_
    refine k_seq ?_
    refine k_region ?_
    refine m_int rfl rfl ?_
    refine m_int rfl rfl ?_
    refine o_nil ?_
    refine k_ret (ret_tmps (ts := [8, 9]) (v := .tuple #[.int _ _, .int _ _]) rfl rfl ?_)
    refine ⟨?_, rfl⟩
    first
     | exact tup2 (head_no (fun H => by unfold hOk at H; omega))
     | exact tup2 (head_no (fun H => by
         have hi : n.toNat = i := by omega
         unfold hOk at H
         rw [hi] at H
         omega))
     | (have H : hOk kind cl n mask := by
         unfold hOk
         first | omega | (rw [hi]; omega)
        rw [head_yes H]
        exact congrArg (fun x => Value.tuple #[.int .i64 x, .int .i64 0]) (by omega))
  ·
    refine g_yes rfl rfl ?_
    refine m_int rfl rfl ?_
    refine g_yes rfl rfl ?_
    refine b_gtr rfl rfl ?_
    refine pick_f rfl rfl ?_
    refine m_bool rfl rfl ?_
    refine o_split (t := 18) rfl (fun h => ?_) (fun h => ?_)
    ·
      refine g_no rfl rfl rfl ?_
      refine g_no rfl rfl rfl ?_
      refine pick_t rfl rfl ?_
      refine m_bool rfl rfl ?_
      refine g_no rfl rfl rfl ?_
      refine g_no rfl rfl rfl ?_
      refine pick_t rfl rfl ?_
      refine m_bool rfl rfl ?_
      refine g_no rfl rfl rfl ?_
      refine g_no rfl rfl rfl ?_
      refine pick_t rfl rfl ?_
      refine m_bool rfl rfl ?_
      refine g_no rfl rfl rfl ?_
      refine g_no rfl rfl rfl ?_
      refine pick_t rfl rfl ?_
      refine m_bool rfl rfl ?_
      refine g_no rfl rfl rfl ?_
      refine g_no rfl rfl rfl ?_
      refine pick_t rfl rfl ?_
      refine o_nil ?_
      refine k_condt rfl ?_
      refine k_seq ?_
      refine k_region ?_
      refine m_int rfl rfl ?_
      refine m_int rfl rfl ?_
      refine o_nil ?_
      refine k_ret (ret_tmps (ts := [8, 9]) (v := .tuple #[.int _ _, .int _ _]) rfl rfl ?_)
      refine ⟨?_, rfl⟩
      first
       | exact tup2 (head_no (fun H => by unfold hOk at H; omega))
       | exact tup2 (head_no (fun H => by
           have hi : n.toNat = i := by omega
           unfold hOk at H
           rw [hi] at H
           omega))
       | (have H : hOk kind cl n mask := by
           unfold hOk
           first | omega | (rw [hi]; omega)
          rw [head_yes H]
          exact congrArg (fun x => Value.tuple #[.int .i64 x, .int .i64 0]) (by omega))
    ·
      refine g_yes rfl rfl ?_
      refine m_int rfl rfl ?_
      refine g_yes rfl rfl ?_
      refine b_lss rfl rfl ?_
      refine pick_f rfl rfl ?_
      refine m_bool rfl rfl ?_
      refine o_split (t := 22) rfl (fun h => ?_) (fun h => ?_)
      ·
        refine g_no rfl rfl rfl ?_
        refine g_no rfl rfl rfl ?_
        refine pick_t rfl rfl ?_
        refine m_bool rfl rfl ?_
        refine g_no rfl rfl rfl ?_
        refine g_no rfl rfl rfl ?_
        refine pick_t rfl rfl ?_
        refine m_bool rfl rfl ?_
        refine g_no rfl rfl rfl ?_
        refine g_no rfl rfl rfl ?_
        refine pick_t rfl rfl ?_
        refine m_bool rfl rfl ?_
        refine g_no rfl rfl rfl ?_
        refine g_no rfl rfl rfl ?_
        refine pick_t rfl rfl ?_
        refine o_nil ?_
        refine k_condt rfl ?_
        refine k_seq ?_
        refine k_region ?_
        refine m_int rfl rfl ?_
        refine m_int rfl rfl ?_
        refine o_nil ?_
        refine k_ret (ret_tmps (ts := [8, 9]) (v := .tuple #[.int _ _, .int _ _]) rfl rfl ?_)
        refine ⟨?_, rfl⟩
        first
         | exact tup2 (head_no (fun H => by unfold hOk at H; omega))
         | exact tup2 (head_no (fun H => by
             have hi : n.toNat = i := by omega
             unfold hOk at H
             rw [hi] at H
             omega))
         | (have H : hOk kind cl n mask := by
             unfold hOk
             first | omega | (rw [hi]; omega)
            rw [head_yes H]
            exact congrArg (fun x => Value.tuple #[.int .i64 x, .int .i64 0]) (by omega))
      ·
        refine g_yes rfl rfl ?_
        refine m_int rfl rfl ?_
        refine g_yes rfl rfl ?_
        refine b_gtr rfl rfl ?_
        refine pick_f rfl rfl ?_
        refine m_bool rfl rfl ?_
        refine o_split (t := 26) rfl (fun h => ?_) (fun h => ?_)
        ·
          refine g_no rfl rfl rfl ?_
          refine g_no rfl rfl rfl ?_
          refine pick_t rfl rfl ?_
          refine m_bool rfl rfl ?_
          refine g_no rfl rfl rfl ?_
          refine g_no rfl rfl rfl ?_
          refine pick_t rfl rfl ?_
          refine m_bool rfl rfl ?_
          refine g_no rfl rfl rfl ?_
          refine g_no rfl rfl rfl ?_
          refine pick_t rfl rfl ?_
          refine o_nil ?_
          refine k_condt rfl ?_
          refine k_seq ?_
          refine k_region ?_
          refine m_int rfl rfl ?_
          refine m_int rfl rfl ?_
          refine o_nil ?_
          refine k_ret (ret_tmps (ts := [8, 9]) (v := .tuple #[.int _ _, .int _ _]) rfl rfl ?_)
          refine ⟨?_, rfl⟩
          first
           | exact tup2 (head_no (fun H => by unfold hOk at H; omega))
           | exact tup2 (head_no (fun H => by
               have hi : n.toNat = i := by omega
               unfold hOk at H
               rw [hi] at H
               omega))
           | (have H : hOk kind cl n mask := by
               unfold hOk
               first | omega | (rw [hi]; omega)
              rw [head_yes H]
              exact congrArg (fun x => Value.tuple #[.int .i64 x, .int .i64 0]) (by omega))
        ·
          refine g_yes rfl rfl ?_
          refine m_int rfl rfl ?_
          refine g_yes rfl rfl ?_
          refine b_lss rfl rfl ?_
          refine pick_f rfl rfl ?_
          refine m_bool rfl rfl ?_
          refine o_split (t := 30) rfl (fun h => ?_) (fun h => ?_)
          ·
            refine g_no rfl rfl rfl ?_
            refine g_no rfl rfl rfl ?_
            refine pick_t rfl rfl ?_
            refine m_bool rfl rfl ?_
            refine g_no rfl rfl rfl ?_
            refine g_no rfl rfl rfl ?_
            refine pick_t rfl rfl ?_
            refine o_nil ?_
            refine k_condt rfl ?_
            refine k_seq ?_
            refine k_region ?_
            refine m_int rfl rfl ?_
            refine m_int rfl rfl ?_
            refine o_nil ?_
            refine k_ret (ret_tmps (ts := [8, 9]) (v := .tuple #[.int _ _, .int _ _]) rfl rfl ?_)
            refine ⟨?_, rfl⟩
            first
             | exact tup2 (head_no (fun H => by unfold hOk at H; omega))
             | exact tup2 (head_no (fun H => by
                 have hi : n.toNat = i := by omega
                 unfold hOk at H
                 rw [hi] at H
                 omega))
             | (have H : hOk kind cl n mask := by
                 unfold hOk
                 first | omega | (rw [hi]; omega)
                rw [head_yes H]
                exact congrArg (fun x => Value.tuple #[.int .i64 x, .int .i64 0]) (by omega))
          ·
            refine g_yes rfl rfl ?_
            refine m_int rfl rfl ?_
            refine g_yes rfl rfl ?_
            refine b_gtr rfl rfl ?_
            refine pick_f rfl rfl ?_
            refine m_bool rfl rfl ?_
            refine o_split (t := 34) rfl (fun h => ?_) (fun h => ?_)
            ·
              refine g_no rfl rfl rfl ?_
              refine g_no rfl rfl rfl ?_
              refine pick_t rfl rfl ?_
              refine o_nil ?_
              refine k_condt rfl ?_
              refine k_seq ?_
              refine k_region ?_
              refine m_int rfl rfl ?_
              refine m_int rfl rfl ?_
              refine o_nil ?_
              refine k_ret (ret_tmps (ts := [8, 9]) (v := .tuple #[.int _ _, .int _ _]) rfl rfl ?_)
              refine ⟨?_, rfl⟩
              first
               | exact tup2 (head_no (fun H => by unfold hOk at H; omega))
               | exact tup2 (head_no (fun H => by
                   have hi : n.toNat = i := by omega
                   unfold hOk at H
                   rw [hi] at H
                   omega))
               | (have H : hOk kind cl n mask := by
                   unfold hOk
                   first | omega | (rw [hi]; omega)
                  rw [head_yes H]
                  exact congrArg (fun x => Value.tuple #[.int .i64 x, .int .i64 0]) (by omega))
            ·
              refine g_yes rfl rfl ?_
              refine m_int rfl rfl ?_
              refine g_yes rfl rfl ?_
              refine b_lss rfl rfl ?_
              refine pick_f rfl rfl ?_
              refine o_nil ?_
              refine k_cond rfl (fun h => ?_) (fun h => ?_)
              ·
                refine k_seq ?_
                refine k_region ?_
                refine m_int rfl rfl ?_
                refine m_int rfl rfl ?_
                refine o_nil ?_
                refine k_ret (ret_tmps (ts := [8, 9]) (v := .tuple #[.int _ _, .int _ _]) rfl rfl ?_)
                refine ⟨?_, rfl⟩
                first
                 | exact tup2 (head_no (fun H => by unfold hOk at H; omega))
                 | exact tup2 (head_no (fun H => by
                     have hi : n.toNat = i := by omega
                     unfold hOk at H
                     rw [hi] at H
                     omega))
                 | (have H : hOk kind cl n mask := by
                     unfold hOk
                     first | omega | (rw [hi]; omega)
                    rw [head_yes H]
                    exact congrArg (fun x => Value.tuple #[.int .i64 x, .int .i64 0]) (by omega))
              refine k_skip ?_
              refine k_seq ?_
              refine k_seq ?_
              refine k_region ?_
              refine m_int rfl rfl ?_
              refine b_neq rfl rfl ?_
              refine o_nil ?_
              refine k_cond rfl (fun h => ?_) (fun h => ?_)
              ·
                refine k_seq ?_
                refine k_seq ?_
                refine k_region ?_
                refine m_int rfl rfl ?_
                refine b_neq rfl rfl ?_
                refine o_nil ?_
                refine k_cond rfl (fun h => ?_) (fun h => ?_)
                ·
                  refine k_seq ?_
                  refine k_region ?_
                  refine m_int rfl rfl ?_
                  refine m_int rfl rfl ?_
                  refine o_nil ?_
                  refine k_ret (ret_tmps (ts := [8, 9]) (v := .tuple #[.int _ _, .int _ _]) rfl rfl ?_)
                  refine ⟨?_, rfl⟩
                  first
                   | exact tup2 (head_no (fun H => by unfold hOk at H; omega))
                   | exact tup2 (head_no (fun H => by
                       have hi : n.toNat = i := by omega
                       unfold hOk at H
                       rw [hi] at H
                       omega))
                   | (have H : hOk kind cl n mask := by
                       unfold hOk
                       first | omega | (rw [hi]; omega)
                      rw [head_yes H]
                      exact congrArg (fun x => Value.tuple #[.int .i64 x, .int .i64 0]) (by omega))
                refine k_skip ?_
                refine k_seq ?_
                refine k_region ?_
                refine m_int rfl rfl ?_
                refine m_int rfl rfl ?_
                refine n_mul rfl rfl (by omega) ?_
                refine n_add rfl rfl (by omega) ?_
                refine m_int rfl rfl ?_
                refine n_mul rfl rfl (by omega) ?_
                refine n_add rfl rfl (by omega) ?_
                refine m_int rfl rfl ?_
                refine m_int rfl rfl ?_
                refine o_nil ?_
                refine k_ret (ret_tmps (ts := [8, 9]) (v := .tuple #[.int _ _, .int _ _]) rfl rfl ?_)
                refine ⟨?_, rfl⟩
                first
                 | exact tup2 (head_no (fun H => by unfold hOk at H; omega))
                 | exact tup2 (head_no (fun H => by
                     have hi : n.toNat = i := by omega
                     unfold hOk at H
                     rw [hi] at H
                     omega))
                 | (have H : hOk kind cl n mask := by
                     unfold hOk
                     first | omega | (rw [hi]; omega)
                    rw [head_yes H]
                    exact congrArg (fun x => Value.tuple #[.int .i64 x, .int .i64 0]) (by omega))
              refine k_skip ?_
              refine k_seq ?_
              refine k_region ?_
              refine m_int rfl rfl ?_
              refine o_nil ?_
              refine k_seq ?_
              refine k_seq ?_
              refine k_region ?_
              refine m_int rfl rfl ?_
              refine o_nil ?_
              refine k_block ?_
              refine k_loop (σ := Nat) (fun i => [(1, .int .i64 cl), (2, .int .i64 n), (3, .int .i64 mask), (10, .int .i64 (2 ^ i)), (11, .int .i64 (i : Int))]) (fun i w' => i ≤ 33 ∧ (i : Int) ≤ n ∧ w' = w) (fun i => 33 - i) 0 ⟨rfl, rfl, rfl, rfl, rfl, trivial⟩ ⟨by omega, by omega, rfl⟩ (fun i e w3 hJ => ?_)
              obtain ⟨hi1, hi2, rfl⟩ := hJ
              refine k_seq ?_
              refine k_seq ?_
              refine k_region ?_
              refine m_int rfl rfl ?_
              refine m_int rfl rfl ?_
              refine b_lss rfl rfl ?_
              refine m_bool rfl rfl ?_
              refine o_split (t := 52) rfl (fun h => ?_) (fun h => ?_)
              ·
                refine g_yes rfl rfl ?_
                refine m_int rfl rfl ?_
                refine g_yes rfl rfl ?_
                refine b_leq rfl rfl ?_
                refine pick_t rfl rfl ?_
                refine o_nil ?_
                refine k_cond rfl (fun h => ?_) (fun h => ?_)
                rotate_left
                ·
                  refine k_exit rfl ?_
                  refine k_seq ?_
                  refine k_seq ?_
                  refine k_region ?_
                  refine m_int rfl rfl ?_
                  refine b_gtr rfl rfl ?_
                  refine m_bool rfl rfl ?_
                  refine o_split (t := 62) rfl (fun h => ?_) (fun h => ?_)
                  ·
                    refine g_no rfl rfl rfl ?_
                    refine g_no rfl rfl rfl ?_
                    refine g_no rfl rfl rfl ?_
                    refine pick_t rfl rfl ?_
                    refine o_nil ?_
                    refine k_condt rfl ?_
                    refine k_seq ?_
                    refine k_region ?_
                    refine m_int rfl rfl ?_
                    refine m_int rfl rfl ?_
                    refine o_nil ?_
                    refine k_ret (ret_tmps (ts := [8, 9]) (v := .tuple #[.int _ _, .int _ _]) rfl rfl ?_)
                    refine ⟨?_, rfl⟩
                    first
                     | exact tup2 (head_no (fun H => by unfold hOk at H; omega))
                     | exact tup2 (head_no (fun H => by
                         have hi : n.toNat = i := by omega
                         unfold hOk at H
                         rw [hi] at H
                         omega))
                     | (have H : hOk kind cl n mask := by
                         unfold hOk
                         first | omega | (rw [hi]; omega)
                        rw [head_yes H]
                        exact congrArg (fun x => Value.tuple #[.int .i64 x, .int .i64 0]) (by omega))
                  ·
                    refine g_yes rfl rfl ?_
                    refine m_int rfl rfl ?_
                    refine g_yes rfl rfl ?_
                    refine m_int rfl rfl ?_
                    refine g_yes rfl rfl ?_
                    refine b_geq rfl rfl ?_
                    refine pick_f rfl rfl ?_
                    refine o_nil ?_
                    refine k_cond rfl (fun h => ?_) (fun h => ?_)
                    ·
                      refine k_seq ?_
                      refine k_region ?_
                      refine m_int rfl rfl ?_
                      refine m_int rfl rfl ?_
                      refine o_nil ?_
                      refine k_ret (ret_tmps (ts := [8, 9]) (v := .tuple #[.int _ _, .int _ _]) rfl rfl ?_)
                      refine ⟨?_, rfl⟩
                      first
                       | exact tup2 (head_no (fun H => by unfold hOk at H; omega))
                       | exact tup2 (head_no (fun H => by
                           have hi : n.toNat = i := by omega
                           unfold hOk at H
                           rw [hi] at H
                           omega))
                       | (have H : hOk kind cl n mask := by
                           unfold hOk
                           first | omega | (rw [hi]; omega)
                          rw [head_yes H]
                          exact congrArg (fun x => Value.tuple #[.int .i64 x, .int .i64 0]) (by omega))
                    have hi : n.toNat = i := by omega
                    have hp := ipow32 i (by omega)
                    refine k_skip ?_
                    refine k_seq ?_
                    refine k_region ?_
                    refine m_int rfl rfl ?_
                    refine n_mul rfl rfl (by omega) ?_
                    refine n_add rfl rfl (by omega) ?_
                    refine m_int rfl rfl ?_
                    refine n_mul rfl rfl (by omega) ?_
                    refine n_add rfl rfl (by omega) ?_
                    refine m_int rfl rfl ?_
                    refine n_mul rfl rfl (by omega) ?_
                    refine n_add rfl rfl (by omega) ?_
                    refine m_int rfl rfl ?_
                    refine m_int rfl rfl ?_
                    refine o_nil ?_
                    refine k_ret (ret_tmps (ts := [8, 9]) (v := .tuple #[.int _ _, .int _ _]) rfl rfl ?_)
                    refine ⟨?_, rfl⟩
                    first
                     | exact tup2 (head_no (fun H => by unfold hOk at H; omega))
                     | exact tup2 (head_no (fun H => by
                         have hi : n.toNat = i := by omega
                         unfold hOk at H
                         rw [hi] at H
                         omega))
                     | (have H : hOk kind cl n mask := by
                         unfold hOk
                         first | omega | (rw [hi]; omega)
                        rw [head_yes H]
                        exact congrArg (fun x => Value.tuple #[.int .i64 x, .int .i64 0]) (by omega))
                refine k_skip ?_
                refine k_seq ?_
                refine k_block ?_
                refine k_region ?_
                refine m_int rfl rfl ?_
                have hp := ipow32 i (by omega)
                refine n_mul rfl rfl (by omega) ?_
                refine m_int rfl rfl ?_
                refine o_nil ?_
                refine k_blk ?_
                refine k_region ?_
                refine m_int rfl rfl ?_
                refine n_add rfl rfl (by omega) ?_
                refine m_int rfl rfl ?_
                refine o_nil ?_
                refine k_goal ⟨i + 1, ⟨rfl, rfl, rfl, ?_, rfl, trivial⟩, ⟨by omega, by omega, rfl⟩, by omega⟩
                show Value.int .i64 (2 * 2 ^ i) = _
                rw [Int.pow_succ, Int.mul_comm]
              ·
                refine g_no rfl rfl rfl ?_
                refine g_no rfl rfl rfl ?_
                refine pick_f rfl rfl ?_
                refine o_nil ?_
                refine k_condf rfl ?_
                refine k_exit rfl ?_
                refine k_seq ?_
                refine k_seq ?_
                refine k_region ?_
                refine m_int rfl rfl ?_
                refine b_gtr rfl rfl ?_
                refine m_bool rfl rfl ?_
                refine o_split (t := 62) rfl (fun h => ?_) (fun h => ?_)
                ·
                  refine g_no rfl rfl rfl ?_
                  refine g_no rfl rfl rfl ?_
                  refine g_no rfl rfl rfl ?_
                  refine pick_t rfl rfl ?_
                  refine o_nil ?_
                  refine k_condt rfl ?_
                  refine k_seq ?_
                  refine k_region ?_
                  refine m_int rfl rfl ?_
                  refine m_int rfl rfl ?_
                  refine o_nil ?_
                  refine k_ret (ret_tmps (ts := [8, 9]) (v := .tuple #[.int _ _, .int _ _]) rfl rfl ?_)
                  refine ⟨?_, rfl⟩
                  first
                   | exact tup2 (head_no (fun H => by unfold hOk at H; omega))
                   | exact tup2 (head_no (fun H => by
                       have hi : n.toNat = i := by omega
                       unfold hOk at H
                       rw [hi] at H
                       omega))
                   | (have H : hOk kind cl n mask := by
                       unfold hOk
                       first | omega | (rw [hi]; omega)
                      rw [head_yes H]
                      exact congrArg (fun x => Value.tuple #[.int .i64 x, .int .i64 0]) (by omega))
                ·
                  refine g_yes rfl rfl ?_
                  refine m_int rfl rfl ?_
                  refine g_yes rfl rfl ?_
                  refine m_int rfl rfl ?_
                  refine g_yes rfl rfl ?_
                  refine b_geq rfl rfl ?_
                  refine pick_f rfl rfl ?_
                  refine o_nil ?_
                  refine k_cond rfl (fun h => ?_) (fun h => ?_)
                  ·
                    refine k_seq ?_
                    refine k_region ?_
                    refine m_int rfl rfl ?_
                    refine m_int rfl rfl ?_
                    refine o_nil ?_
                    refine k_ret (ret_tmps (ts := [8, 9]) (v := .tuple #[.int _ _, .int _ _]) rfl rfl ?_)
                    refine ⟨?_, rfl⟩
                    first
                     | exact tup2 (head_no (fun H => by unfold hOk at H; omega))
                     | exact tup2 (head_no (fun H => by
                         have hi : n.toNat = i := by omega
                         unfold hOk at H
                         rw [hi] at H
                         omega))
                     | (have H : hOk kind cl n mask := by
                         unfold hOk
                         first | omega | (rw [hi]; omega)
                        rw [head_yes H]
                        exact congrArg (fun x => Value.tuple #[.int .i64 x, .int .i64 0]) (by omega))
                  have hi : n.toNat = i := by omega
                  have hp := ipow32 i (by omega)
                  refine k_skip ?_
                  refine k_seq ?_
                  refine k_region ?_
                  refine m_int rfl rfl ?_
                  refine n_mul rfl rfl (by omega) ?_
                  refine n_add rfl rfl (by omega) ?_
                  refine m_int rfl rfl ?_
                  refine n_mul rfl rfl (by omega) ?_
                  refine n_add rfl rfl (by omega) ?_
                  refine m_int rfl rfl ?_
                  refine n_mul rfl rfl (by omega) ?_
                  refine n_add rfl rfl (by omega) ?_
                  refine m_int rfl rfl ?_
                  refine m_int rfl rfl ?_
                  refine o_nil ?_
                  refine k_ret (ret_tmps (ts := [8, 9]) (v := .tuple #[.int _ _, .int _ _]) rfl rfl ?_)
                  refine ⟨?_, rfl⟩
                  first
                   | exact tup2 (head_no (fun H => by unfold hOk at H; omega))
                   | exact tup2 (head_no (fun H => by
                       have hi : n.toNat = i := by omega
                       unfold hOk at H
                       rw [hi] at H
                       omega))
                   | (have H : hOk kind cl n mask := by
                       unfold hOk
                       first | omega | (rw [hi]; omega)
                      rw [head_yes H]
                      exact congrArg (fun x => Value.tuple #[.int .i64 x, .int .i64 0]) (by omega))

def pk (x : Int) : Int := x % 4
def pc (x : Int) : Int := x / 4 % 65536
def pn (x : Int) : Int := if x % 4 = 1 then x / 262144 % 64 else x % 18446744073709551616 / 262144
def pm (x : Int) : Int := if x % 4 = 1 then x % 18446744073709551616 / 16777216 else 0
def openW (x : Int) : Int × Int × Int × Int × Int := if headW (pk x) (pc x) (pn x) (pm x) = (x, 0) then (pk x, pc x, pn x, pm x, 0) else (0, 0, 0, 0, 24)
theorem open_no (x k c n m : Int) (hk : pk x = k) (hc : pc x = c) (hn : pn x = n) (hm : pm x = m) (h : headW k c n m ≠ (x, 0)) : openW x = (0, 0, 0, 0, 24) := by
  unfold openW; subst hk hc hn hm; rw [if_neg h]
theorem open_yes (x k c n m : Int) (hk : pk x = k) (hc : pc x = c) (hn : pn x = n) (hm : pm x = m) (h : headW k c n m = (x, 0)) : openW x = (k, c, n, m, 0) := by
  unfold openW; subst hk hc hn hm; rw [if_pos h]
theorem open_neg (x : Int) (h : x < 0) : openW x = (0, 0, 0, 0, 24) := by
  refine open_no x _ _ _ _ rfl rfl rfl rfl (fun H => ?_)
  unfold headW at H
  split at H
  · rename_i hk
    obtain ⟨h1, h2, h3, h4, h5, h6, h7, h8⟩ := hk
    have h9 : 0 ≤ pm x := by
      by_cases hk : pk x = 1
      · exact (h8 hk).2.1
      · rw [h7 hk]; omega
    have := congrArg Prod.fst H
    simp only at this
    omega
  · have := congrArg Prod.snd H
    simp at this
theorem tup5 {x : Int} {p : Int × Int × Int × Int × Int} (h : openW x = p) : Value.tuple #[.int .i64 p.1, .int .i64 p.2.1, .int .i64 p.2.2.1, .int .i64 p.2.2.2.1, .int .i64 p.2.2.2.2] = .tuple #[.int .i64 (openW x).1, .int .i64 (openW x).2.1, .int .i64 (openW x).2.2.1, .int .i64 (openW x).2.2.2.1, .int .i64 (openW x).2.2.2.2] := by rw [h]

theorem b3 (x : Int) : (BitVec.ofInt 64 x &&& 3#64).toInt = x % 4 := by
  have e : (BitVec.ofInt 64 x &&& 3#64).toNat = (x % 4).toNat := by
    rw [BitVec.toNat_and, ofZ, show (3#64).toNat = 2 ^ 2 - 1 by decide, Nat.and_two_pow_sub_one_eq_mod]; omega
  rw [BitVec.toInt_eq_toNat_of_lt (by rw [e]; omega), e]; omega
theorem b63 (x : Int) : (BitVec.ofInt 64 x >>> 18 &&& 63#64).toInt = x / 262144 % 64 := by
  have e : (BitVec.ofInt 64 x >>> 18 &&& 63#64).toNat = (x / 262144 % 64).toNat := by
    rw [BitVec.toNat_and, BitVec.toNat_ushiftRight, ofZ, show (63#64).toNat = 2 ^ 6 - 1 by decide, Nat.and_two_pow_sub_one_eq_mod, Nat.shiftRight_eq_div_pow]; omega
  rw [BitVec.toInt_eq_toNat_of_lt (by rw [e]; omega), e]; omega
theorem b18 (x : Int) : (BitVec.ofInt 64 x >>> 18).toInt = x % 18446744073709551616 / 262144 := by
  have e : (BitVec.ofInt 64 x >>> 18).toNat = (x % 18446744073709551616 / 262144).toNat := by
    rw [BitVec.toNat_ushiftRight, ofZ, Nat.shiftRight_eq_div_pow]; omega
  rw [BitVec.toInt_eq_toNat_of_lt (by rw [e]; omega), e]; omega
theorem b24 (x : Int) : (BitVec.ofInt 64 x >>> 24).toInt = x % 18446744073709551616 / 16777216 := by
  have e : (BitVec.ofInt 64 x >>> 24).toNat = (x % 18446744073709551616 / 16777216).toNat := by
    rw [BitVec.toNat_ushiftRight, ofZ, Nat.shiftRight_eq_div_pow]; omega
  rw [BitVec.toInt_eq_toNat_of_lt (by rw [e]; omega), e]; omega
theorem b16 (x : Int) : (((BitVec.ofInt 64 x >>> 2).setWidth 16).toNat : Int) = x / 4 % 65536 := by
  rw [BitVec.toNat_setWidth, BitVec.toNat_ushiftRight, ofZ, Nat.shiftRight_eq_div_pow]; omega

theorem open_ok (w : World) (x : Int) : Ret Tryd.prog 24 [.int .i64 x] w (fun v w' => v = .tuple #[.int .i64 (openW x).1, .int .i64 (openW x).2.1, .int .i64 (openW x).2.2.1, .int .i64 (openW x).2.2.2.1, .int .i64 (openW x).2.2.2.2] ∧ w' = w) := by
  refine fn_enter (n := 50) Tryd.func24 rfl rfl (Nat.le_of_ble_eq_true rfl) (fun e => ?_)
  refine k_seq ?_
  refine k_region ?_
  refine m_int rfl rfl ?_
  refine m_int rfl rfl ?_
  refine m_int rfl rfl ?_
  refine m_int rfl rfl ?_
  refine m_int rfl rfl ?_
  refine o_nil ?_
  refine k_seq ?_
  refine k_region ?_
  refine m_int rfl rfl ?_
  refine cv64 rfl Tryd.underlying105 rfl ?_
  refine m_int rfl rfl ?_
  refine o_nil ?_
  refine k_seq ?_
  refine k_region ?_
  refine m_int rfl rfl ?_
  refine v64_and (b := 3#64) rfl rfl ?_
  refine cv64_i rfl Tryd.underlying3 rfl ?_
  rw [b3]
  refine m_int rfl rfl ?_
  refine v64_shrn (c := 2) rfl rfl ?_
  refine cv64_16 rfl Tryd.underlying47 rfl ?_
  refine cv16_i rfl Tryd.underlying3 rfl ?_
  rw [b16]
  refine m_int rfl rfl ?_
  refine m_int rfl rfl ?_
  refine o_nil ?_
  refine k_seq ?_
  refine k_seq ?_
  refine k_region ?_
  refine m_int rfl rfl ?_
  refine v64_shrn (c := 18) rfl rfl ?_
  refine cv64_i rfl Tryd.underlying3 rfl ?_
  rw [b18]
  refine m_int rfl rfl ?_
  refine o_nil ?_
  refine k_seq ?_
  refine k_region ?_
  refine m_int rfl rfl ?_
  refine b_eql rfl rfl ?_
  refine o_nil ?_
  refine k_cond rfl (fun h => ?_) (fun h => ?_)
  ·
    have en : pn x = x / 262144 % 64 := if_pos h
    have em : pm x = x % 18446744073709551616 / 16777216 := if_pos h
    refine k_region ?_
    refine m_int rfl rfl ?_
    refine v64_shrn (c := 18) rfl rfl ?_
    refine v64_and (b := 63#64) rfl rfl ?_
    refine cv64_i rfl Tryd.underlying3 rfl ?_
    rw [b63]
    refine m_int rfl rfl ?_
    refine v64_shrn (c := 24) rfl rfl ?_
    refine cv64_i rfl Tryd.underlying2 rfl ?_
    rw [b24]
    refine m_int rfl rfl ?_
    refine m_int rfl rfl ?_
    refine o_nil ?_
    refine k_seq ?_
    refine k_seq ?_
    refine k_region ?_
    refine m_int rfl rfl ?_
    refine m_int rfl rfl ?_
    refine m_int rfl rfl ?_
    refine m_int rfl rfl ?_
    refine o_call rfl rfl (head_ok w _ _ _ _ (by omega) (by omega) (by omega)) (fun v w1 hv => ?_)
    obtain ⟨rfl, rfl⟩ := hv
    refine m_any rfl rfl ?_
    refine o_extr rfl rfl ?_
    refine o_extr rfl rfl ?_
    refine m_int rfl rfl ?_
    refine m_int rfl rfl ?_
    refine o_nil ?_
    refine k_seq ?_
    refine k_region ?_
    refine m_int rfl rfl ?_
    refine b_neq rfl rfl ?_
    refine m_bool rfl rfl ?_
    refine o_split (t := 41) rfl (fun h => ?_) (fun h => ?_)
    ·
      refine g_no rfl rfl rfl ?_
      refine g_no rfl rfl rfl ?_
      refine g_no rfl rfl rfl ?_
      refine pick_t rfl rfl ?_
      refine o_nil ?_
      refine k_condt rfl ?_
      refine k_seq ?_
      refine k_region ?_
      refine m_int rfl rfl ?_
      refine m_int rfl rfl ?_
      refine m_int rfl rfl ?_
      refine m_int rfl rfl ?_
      refine m_int rfl rfl ?_
      refine o_nil ?_
      refine k_ret (ret_tmps (ts := [2, 3, 4, 5, 6]) (v := .tuple #[.int _ _, .int _ _, .int _ _, .int _ _, .int _ _]) rfl rfl ?_)
      refine ⟨?_, rfl⟩
      first
       | exact tup5 (open_no x _ _ _ _ rfl rfl en em (fun H => by
           have h1 := congrArg Prod.fst H
           have h2 := congrArg Prod.snd H
           contradiction))
       | exact tup5 (open_yes x _ _ _ _ rfl rfl en em (Prod.ext (Decidable.of_not_not (by assumption)) (Decidable.of_not_not (by assumption))))
    ·
      refine g_yes rfl rfl ?_
      refine m_int rfl rfl ?_
      refine g_yes rfl rfl ?_
      refine m_int rfl rfl ?_
      refine g_yes rfl rfl ?_
      refine b_neq rfl rfl ?_
      refine pick_f rfl rfl ?_
      refine o_nil ?_
      refine k_cond rfl (fun h => ?_) (fun h => ?_)
      ·
        refine k_seq ?_
        refine k_region ?_
        refine m_int rfl rfl ?_
        refine m_int rfl rfl ?_
        refine m_int rfl rfl ?_
        refine m_int rfl rfl ?_
        refine m_int rfl rfl ?_
        refine o_nil ?_
        refine k_ret (ret_tmps (ts := [2, 3, 4, 5, 6]) (v := .tuple #[.int _ _, .int _ _, .int _ _, .int _ _, .int _ _]) rfl rfl ?_)
        refine ⟨?_, rfl⟩
        first
         | exact tup5 (open_no x _ _ _ _ rfl rfl en em (fun H => by
             have h1 := congrArg Prod.fst H
             have h2 := congrArg Prod.snd H
             contradiction))
         | exact tup5 (open_yes x _ _ _ _ rfl rfl en em (Prod.ext (Decidable.of_not_not (by assumption)) (Decidable.of_not_not (by assumption))))
      refine k_skip ?_
      refine k_seq ?_
      refine k_region ?_
      refine m_int rfl rfl ?_
      refine m_int rfl rfl ?_
      refine m_int rfl rfl ?_
      refine m_int rfl rfl ?_
      refine m_int rfl rfl ?_
      refine m_int rfl rfl ?_
      refine m_int rfl rfl ?_
      refine m_int rfl rfl ?_
      refine m_int rfl rfl ?_
      refine o_nil ?_
      refine k_ret (ret_tmps (ts := [2, 3, 4, 5, 6]) (v := .tuple #[.int _ _, .int _ _, .int _ _, .int _ _, .int _ _]) rfl rfl ?_)
      refine ⟨?_, rfl⟩
      first
       | exact tup5 (open_no x _ _ _ _ rfl rfl en em (fun H => by
           have h1 := congrArg Prod.fst H
           have h2 := congrArg Prod.snd H
           contradiction))
       | exact tup5 (open_yes x _ _ _ _ rfl rfl en em (Prod.ext (Decidable.of_not_not (by assumption)) (Decidable.of_not_not (by assumption))))
  have en : pn x = x % 18446744073709551616 / 262144 := if_neg h
  have em : pm x = 0 := if_neg h
  refine k_skip ?_
  refine k_seq ?_
  refine k_seq ?_
  refine k_region ?_
  refine m_int rfl rfl ?_
  refine m_int rfl rfl ?_
  refine m_int rfl rfl ?_
  refine m_int rfl rfl ?_
  refine o_call rfl rfl (head_ok w _ _ _ _ (by omega) (by omega) (by omega)) (fun v w1 hv => ?_)
  obtain ⟨rfl, rfl⟩ := hv
  refine m_any rfl rfl ?_
  refine o_extr rfl rfl ?_
  refine o_extr rfl rfl ?_
  refine m_int rfl rfl ?_
  refine m_int rfl rfl ?_
  refine o_nil ?_
  refine k_seq ?_
  refine k_region ?_
  refine m_int rfl rfl ?_
  refine b_neq rfl rfl ?_
  refine m_bool rfl rfl ?_
  refine o_split (t := 41) rfl (fun h => ?_) (fun h => ?_)
  ·
    refine g_no rfl rfl rfl ?_
    refine g_no rfl rfl rfl ?_
    refine g_no rfl rfl rfl ?_
    refine pick_t rfl rfl ?_
    refine o_nil ?_
    refine k_condt rfl ?_
    refine k_seq ?_
    refine k_region ?_
    refine m_int rfl rfl ?_
    refine m_int rfl rfl ?_
    refine m_int rfl rfl ?_
    refine m_int rfl rfl ?_
    refine m_int rfl rfl ?_
    refine o_nil ?_
    refine k_ret (ret_tmps (ts := [2, 3, 4, 5, 6]) (v := .tuple #[.int _ _, .int _ _, .int _ _, .int _ _, .int _ _]) rfl rfl ?_)
    refine ⟨?_, rfl⟩
    first
     | exact tup5 (open_no x _ _ _ _ rfl rfl en em (fun H => by
         have h1 := congrArg Prod.fst H
         have h2 := congrArg Prod.snd H
         contradiction))
     | exact tup5 (open_yes x _ _ _ _ rfl rfl en em (Prod.ext (Decidable.of_not_not (by assumption)) (Decidable.of_not_not (by assumption))))
  ·
    refine g_yes rfl rfl ?_
    refine m_int rfl rfl ?_
    refine g_yes rfl rfl ?_
    refine m_int rfl rfl ?_
    refine g_yes rfl rfl ?_
    refine b_neq rfl rfl ?_
    refine pick_f rfl rfl ?_
    refine o_nil ?_
    refine k_cond rfl (fun h => ?_) (fun h => ?_)
    ·
      refine k_seq ?_
      refine k_region ?_
      refine m_int rfl rfl ?_
      refine m_int rfl rfl ?_
      refine m_int rfl rfl ?_
      refine m_int rfl rfl ?_
      refine m_int rfl rfl ?_
      refine o_nil ?_
      refine k_ret (ret_tmps (ts := [2, 3, 4, 5, 6]) (v := .tuple #[.int _ _, .int _ _, .int _ _, .int _ _, .int _ _]) rfl rfl ?_)
      refine ⟨?_, rfl⟩
      first
       | exact tup5 (open_no x _ _ _ _ rfl rfl en em (fun H => by
           have h1 := congrArg Prod.fst H
           have h2 := congrArg Prod.snd H
           contradiction))
       | exact tup5 (open_yes x _ _ _ _ rfl rfl en em (Prod.ext (Decidable.of_not_not (by assumption)) (Decidable.of_not_not (by assumption))))
    refine k_skip ?_
    refine k_seq ?_
    refine k_region ?_
    refine m_int rfl rfl ?_
    refine m_int rfl rfl ?_
    refine m_int rfl rfl ?_
    refine m_int rfl rfl ?_
    refine m_int rfl rfl ?_
    refine m_int rfl rfl ?_
    refine m_int rfl rfl ?_
    refine m_int rfl rfl ?_
    refine m_int rfl rfl ?_
    refine o_nil ?_
    refine k_ret (ret_tmps (ts := [2, 3, 4, 5, 6]) (v := .tuple #[.int _ _, .int _ _, .int _ _, .int _ _, .int _ _]) rfl rfl ?_)
    refine ⟨?_, rfl⟩
    first
     | exact tup5 (open_no x _ _ _ _ rfl rfl en em (fun H => by
         have h1 := congrArg Prod.fst H
         have h2 := congrArg Prod.snd H
         contradiction))
     | exact tup5 (open_yes x _ _ _ _ rfl rfl en em (Prod.ext (Decidable.of_not_not (by assumption)) (Decidable.of_not_not (by assumption))))

theorem wq (x k : Int) (h : 0 ≤ x ∧ x ≤ 9223372036854775807) (hk : 1 ≤ k) : IntKind.i64.wrap (x.tdiv k) = x / k := by
  rw [Int.tdiv_eq_ediv_of_nonneg h.1]
  refine IntWalk.i64_in _ ⟨?_, ?_⟩
  · have := Int.ediv_nonneg h.1 (show 0 ≤ k by omega); omega
  · have := Int.ediv_le_self k h.1; omega
theorem ropen_ok (w : World) (x : Int) (hx : x ≤ 9223372036854775807) : Ret Tryd.prog 38 [.int .i64 x] w (fun v w' => v = .tuple #[.int .i64 (openW x).1, .int .i64 (openW x).2.1, .int .i64 (openW x).2.2.1, .int .i64 (openW x).2.2.2.1, .int .i64 (openW x).2.2.2.2] ∧ w' = w) := by
  refine fn_enter (n := 48) Tryd.func38 rfl rfl (Nat.le_of_ble_eq_true rfl) (fun e => ?_)
  refine k_seq ?_
  refine k_region ?_
  refine m_int rfl rfl ?_
  refine m_int rfl rfl ?_
  refine m_int rfl rfl ?_
  refine m_int rfl rfl ?_
  refine m_int rfl rfl ?_
  refine o_nil ?_
  refine k_seq ?_
  refine k_seq ?_
  refine k_region ?_
  refine m_int rfl rfl ?_
  refine b_lss rfl rfl ?_
  refine o_nil ?_
  refine k_cond rfl (fun h => ?_) (fun h => ?_)
  ·
    have hng := open_neg x (by omega)
    refine k_seq ?_
    refine k_region ?_
    refine m_int rfl rfl ?_
    refine m_int rfl rfl ?_
    refine m_int rfl rfl ?_
    refine m_int rfl rfl ?_
    refine m_int rfl rfl ?_
    refine o_nil ?_
    refine k_ret (ret_tmps (ts := [2, 3, 4, 5, 6]) (v := .tuple #[.int _ _, .int _ _, .int _ _, .int _ _, .int _ _]) rfl rfl ?_)
    refine ⟨?_, rfl⟩
    first
     | exact tup5 hng
     | exact tup5 (open_no x _ _ _ _ rfl rfl en em (fun H => by
         have h1 := congrArg Prod.fst H
         have h2 := congrArg Prod.snd H
         contradiction))
     | exact tup5 (open_yes x _ _ _ _ rfl rfl en em (Prod.ext (Decidable.of_not_not (by assumption)) (Decidable.of_not_not (by assumption))))
  refine k_skip ?_
  refine k_seq ?_
  refine k_region ?_
  refine m_int rfl rfl ?_
  refine b_rem rfl rfl (by omega) ?_
  rw [Int.tmod_eq_emod_of_nonneg (show 0 ≤ x by omega)]
  refine m_int rfl rfl ?_
  refine b_quo rfl rfl (by omega) ?_
  rw [wq x 4 (by omega) (by omega)]
  refine b_rem rfl rfl (by omega) ?_
  rw [Int.tmod_eq_emod_of_nonneg (show 0 ≤ x / 4 by omega)]
  refine m_int rfl rfl ?_
  refine b_quo rfl rfl (by omega) ?_
  rw [wq x 262144 (by omega) (by omega)]
  refine m_int rfl rfl ?_
  refine m_int rfl rfl ?_
  refine m_int rfl rfl ?_
  refine m_int rfl rfl ?_
  refine o_nil ?_
  refine k_seq ?_
  refine k_seq ?_
  refine k_region ?_
  refine m_int rfl rfl ?_
  refine b_eql rfl rfl ?_
  refine o_nil ?_
  refine k_cond rfl (fun h => ?_) (fun h => ?_)
  ·
    have en : pn x = x / 262144 % 64 := if_pos h
    have em : pm x = x / 16777216 := (if_pos h).trans (by omega)
    refine k_region ?_
    refine m_int rfl rfl ?_
    refine b_quo rfl rfl (by omega) ?_
    rw [wq x 262144 (by omega) (by omega)]
    refine b_rem rfl rfl (by omega) ?_
    rw [Int.tmod_eq_emod_of_nonneg (show 0 ≤ x / 262144 by omega)]
    refine m_int rfl rfl ?_
    refine b_quo rfl rfl (by omega) ?_
    rw [wq x 16777216 (by omega) (by omega)]
    refine m_int rfl rfl ?_
    refine m_int rfl rfl ?_
    refine o_nil ?_
    refine k_seq ?_
    refine k_region ?_
    refine m_int rfl rfl ?_
    refine m_int rfl rfl ?_
    refine m_int rfl rfl ?_
    refine m_int rfl rfl ?_
    refine o_call rfl rfl (rhead_ok w _ _ _ _ (by omega)) (fun v w1 hv => ?_)
    obtain ⟨rfl, rfl⟩ := hv
    refine m_any rfl rfl ?_
    refine o_extr rfl rfl ?_
    refine o_extr rfl rfl ?_
    refine m_int rfl rfl ?_
    refine m_int rfl rfl ?_
    refine o_nil ?_
    refine k_seq ?_
    refine k_seq ?_
    refine k_region ?_
    refine m_int rfl rfl ?_
    refine b_neq rfl rfl ?_
    refine m_bool rfl rfl ?_
    refine o_split (t := 39) rfl (fun h => ?_) (fun h => ?_)
    ·
      refine g_no rfl rfl rfl ?_
      refine g_no rfl rfl rfl ?_
      refine g_no rfl rfl rfl ?_
      refine pick_t rfl rfl ?_
      refine o_nil ?_
      refine k_condt rfl ?_
      refine k_seq ?_
      refine k_region ?_
      refine m_int rfl rfl ?_
      refine m_int rfl rfl ?_
      refine m_int rfl rfl ?_
      refine m_int rfl rfl ?_
      refine m_int rfl rfl ?_
      refine o_nil ?_
      refine k_ret (ret_tmps (ts := [2, 3, 4, 5, 6]) (v := .tuple #[.int _ _, .int _ _, .int _ _, .int _ _, .int _ _]) rfl rfl ?_)
      refine ⟨?_, rfl⟩
      first
       | exact tup5 hng
       | exact tup5 (open_no x _ _ _ _ rfl rfl en em (fun H => by
           have h1 := congrArg Prod.fst H
           have h2 := congrArg Prod.snd H
           contradiction))
       | exact tup5 (open_yes x _ _ _ _ rfl rfl en em (Prod.ext (Decidable.of_not_not (by assumption)) (Decidable.of_not_not (by assumption))))
    ·
      refine g_yes rfl rfl ?_
      refine m_int rfl rfl ?_
      refine g_yes rfl rfl ?_
      refine m_int rfl rfl ?_
      refine g_yes rfl rfl ?_
      refine b_neq rfl rfl ?_
      refine pick_f rfl rfl ?_
      refine o_nil ?_
      refine k_cond rfl (fun h => ?_) (fun h => ?_)
      ·
        refine k_seq ?_
        refine k_region ?_
        refine m_int rfl rfl ?_
        refine m_int rfl rfl ?_
        refine m_int rfl rfl ?_
        refine m_int rfl rfl ?_
        refine m_int rfl rfl ?_
        refine o_nil ?_
        refine k_ret (ret_tmps (ts := [2, 3, 4, 5, 6]) (v := .tuple #[.int _ _, .int _ _, .int _ _, .int _ _, .int _ _]) rfl rfl ?_)
        refine ⟨?_, rfl⟩
        first
         | exact tup5 hng
         | exact tup5 (open_no x _ _ _ _ rfl rfl en em (fun H => by
             have h1 := congrArg Prod.fst H
             have h2 := congrArg Prod.snd H
             contradiction))
         | exact tup5 (open_yes x _ _ _ _ rfl rfl en em (Prod.ext (Decidable.of_not_not (by assumption)) (Decidable.of_not_not (by assumption))))
      refine k_skip ?_
      refine k_seq ?_
      refine k_region ?_
      refine m_int rfl rfl ?_
      refine m_int rfl rfl ?_
      refine m_int rfl rfl ?_
      refine m_int rfl rfl ?_
      refine m_int rfl rfl ?_
      refine m_int rfl rfl ?_
      refine m_int rfl rfl ?_
      refine m_int rfl rfl ?_
      refine m_int rfl rfl ?_
      refine o_nil ?_
      refine k_ret (ret_tmps (ts := [2, 3, 4, 5, 6]) (v := .tuple #[.int _ _, .int _ _, .int _ _, .int _ _, .int _ _]) rfl rfl ?_)
      refine ⟨?_, rfl⟩
      first
       | exact tup5 hng
       | exact tup5 (open_no x _ _ _ _ rfl rfl en em (fun H => by
           have h1 := congrArg Prod.fst H
           have h2 := congrArg Prod.snd H
           contradiction))
       | exact tup5 (open_yes x _ _ _ _ rfl rfl en em (Prod.ext (Decidable.of_not_not (by assumption)) (Decidable.of_not_not (by assumption))))
  have en : pn x = x / 262144 := (if_neg h).trans (by omega)
  have em : pm x = 0 := if_neg h
  refine k_skip ?_
  refine k_seq ?_
  refine k_region ?_
  refine m_int rfl rfl ?_
  refine m_int rfl rfl ?_
  refine m_int rfl rfl ?_
  refine m_int rfl rfl ?_
  refine o_call rfl rfl (rhead_ok w _ _ _ _ (by omega)) (fun v w1 hv => ?_)
  obtain ⟨rfl, rfl⟩ := hv
  refine m_any rfl rfl ?_
  refine o_extr rfl rfl ?_
  refine o_extr rfl rfl ?_
  refine m_int rfl rfl ?_
  refine m_int rfl rfl ?_
  refine o_nil ?_
  refine k_seq ?_
  refine k_seq ?_
  refine k_region ?_
  refine m_int rfl rfl ?_
  refine b_neq rfl rfl ?_
  refine m_bool rfl rfl ?_
  refine o_split (t := 39) rfl (fun h => ?_) (fun h => ?_)
  ·
    refine g_no rfl rfl rfl ?_
    refine g_no rfl rfl rfl ?_
    refine g_no rfl rfl rfl ?_
    refine pick_t rfl rfl ?_
    refine o_nil ?_
    refine k_condt rfl ?_
    refine k_seq ?_
    refine k_region ?_
    refine m_int rfl rfl ?_
    refine m_int rfl rfl ?_
    refine m_int rfl rfl ?_
    refine m_int rfl rfl ?_
    refine m_int rfl rfl ?_
    refine o_nil ?_
    refine k_ret (ret_tmps (ts := [2, 3, 4, 5, 6]) (v := .tuple #[.int _ _, .int _ _, .int _ _, .int _ _, .int _ _]) rfl rfl ?_)
    refine ⟨?_, rfl⟩
    first
     | exact tup5 hng
     | exact tup5 (open_no x _ _ _ _ rfl rfl en em (fun H => by
         have h1 := congrArg Prod.fst H
         have h2 := congrArg Prod.snd H
         contradiction))
     | exact tup5 (open_yes x _ _ _ _ rfl rfl en em (Prod.ext (Decidable.of_not_not (by assumption)) (Decidable.of_not_not (by assumption))))
  ·
    refine g_yes rfl rfl ?_
    refine m_int rfl rfl ?_
    refine g_yes rfl rfl ?_
    refine m_int rfl rfl ?_
    refine g_yes rfl rfl ?_
    refine b_neq rfl rfl ?_
    refine pick_f rfl rfl ?_
    refine o_nil ?_
    refine k_cond rfl (fun h => ?_) (fun h => ?_)
    ·
      refine k_seq ?_
      refine k_region ?_
      refine m_int rfl rfl ?_
      refine m_int rfl rfl ?_
      refine m_int rfl rfl ?_
      refine m_int rfl rfl ?_
      refine m_int rfl rfl ?_
      refine o_nil ?_
      refine k_ret (ret_tmps (ts := [2, 3, 4, 5, 6]) (v := .tuple #[.int _ _, .int _ _, .int _ _, .int _ _, .int _ _]) rfl rfl ?_)
      refine ⟨?_, rfl⟩
      first
       | exact tup5 hng
       | exact tup5 (open_no x _ _ _ _ rfl rfl en em (fun H => by
           have h1 := congrArg Prod.fst H
           have h2 := congrArg Prod.snd H
           contradiction))
       | exact tup5 (open_yes x _ _ _ _ rfl rfl en em (Prod.ext (Decidable.of_not_not (by assumption)) (Decidable.of_not_not (by assumption))))
    refine k_skip ?_
    refine k_seq ?_
    refine k_region ?_
    refine m_int rfl rfl ?_
    refine m_int rfl rfl ?_
    refine m_int rfl rfl ?_
    refine m_int rfl rfl ?_
    refine m_int rfl rfl ?_
    refine m_int rfl rfl ?_
    refine m_int rfl rfl ?_
    refine m_int rfl rfl ?_
    refine m_int rfl rfl ?_
    refine o_nil ?_
    refine k_ret (ret_tmps (ts := [2, 3, 4, 5, 6]) (v := .tuple #[.int _ _, .int _ _, .int _ _, .int _ _, .int _ _]) rfl rfl ?_)
    refine ⟨?_, rfl⟩
    first
     | exact tup5 hng
     | exact tup5 (open_no x _ _ _ _ rfl rfl en em (fun H => by
         have h1 := congrArg Prod.fst H
         have h2 := congrArg Prod.snd H
         contradiction))
     | exact tup5 (open_yes x _ _ _ _ rfl rfl en em (Prod.ext (Decidable.of_not_not (by assumption)) (Decidable.of_not_not (by assumption))))
end Go.Proofs.YtchbidckckmobaaDoor

/- The walks of Same and of both Refs. No condition beyond what each contract names. -/
namespace Go.Proofs.YtchbidckckmobaaDoor
open Go.RowKit E
set_option linter.unusedVariables false
set_option linter.unusedSimpArgs false
set_option maxRecDepth 100000
attribute [local irreducible] ow qw kw kq cw opW Ret
theorem same_ok (w : World) (a b : Option Addr) (n m c d : Nat) (xs ys : List Int) (hX : Rd w a (xs.map iv)) (hY : Rd w b (ys.map iv)) (hn : xs.length = n) (hm : ys.length = m) (hl : n ≤ 9223372036854775807) :
    Ret Tryd.prog 19 [.slice a n c, .slice b m d] w (fun v w' => v = .bool (decide (xs = ys)) ∧ Keep [] w w') := by
  refine fn_enter (n := 26) Tryd.func19 rfl rfl (Nat.le_of_ble_eq_true rfl) (fun e => ?_)
  refine k_seq ?_
  refine k_region ?_
  refine m_bool rfl rfl ?_
  refine o_nil ?_
  refine k_seq ?_
  refine k_seq ?_
  refine k_region ?_
  refine m_sl rfl rfl ?_
  refine o_lens Tryd.underlying23 rfl ?_
  refine m_sl rfl rfl ?_
  refine o_lens Tryd.underlying23 rfl ?_
  refine b_neq rfl rfl ?_
  refine o_nil ?_
  refine k_cond rfl (fun h => ?_) (fun h => ?_)
  ·
    refine k_seq ?_
    refine k_region ?_
    refine m_bool rfl rfl ?_
    refine o_nil ?_
    refine k_ret (ret_tmps (ts := [4]) (v := .bool _) rfl rfl ?_)
    exact ⟨congrArg Value.bool (decide_eq_false (fun he => by subst he; omega)).symm, Keep.refl _ _⟩
  have hnm : n = m := by omega
  subst hnm
  refine k_skip ?_
  refine k_seq ?_
  refine k_seq ?_
  refine k_region ?_
  refine m_int rfl rfl ?_
  refine o_nil ?_
  refine k_block ?_
  refine k_loop (σ := Nat) (fun i => [(0, .slice a n c), (1, .slice b n d), (5, .int .i64 (i : Int))]) (fun i w' => i ≤ n ∧ (∀ j, j < i → xs[j]? = ys[j]?) ∧ Keep [] w w') (fun i => n - i) 0 ⟨rfl, rfl, rfl, trivial⟩ ⟨by omega, by intro j hj; omega, Keep.refl _ _⟩ (fun i e w3 hJ => ?_)
  obtain ⟨hi, hpre, hk3⟩ := hJ
  refine k_seq ?_
  refine k_seq ?_
  refine k_region ?_
  refine m_int rfl rfl ?_
  refine m_sl rfl rfl ?_
  refine o_lens Tryd.underlying23 rfl ?_
  refine b_lss rfl rfl ?_
  refine o_nil ?_
  refine k_cond rfl (fun h => ?_) (fun h => ?_)
  rotate_left
  ·
    refine k_exit rfl ?_
    refine k_seq ?_
    refine k_region ?_
    refine m_bool rfl rfl ?_
    refine o_nil ?_
    refine k_ret (ret_tmps (ts := [4]) (v := .bool _) rfl rfl ?_)
    refine ⟨congrArg Value.bool (decide_eq_true (List.ext_getElem? (fun j => ?_))).symm, hk3⟩
    by_cases hj : j < n
    · exact hpre j (by omega)
    · rw [List.getElem?_eq_none (by omega), List.getElem?_eq_none (by omega)]
  have hin : i < n := by omega
  have hx := List.getElem?_eq_getElem (l := xs) (i := i) (by omega)
  have hy := List.getElem?_eq_getElem (l := ys) (i := i) (by omega)
  obtain ⟨b1, o1, rfl, _⟩ := hX.at i (by simpa using (by omega : i < xs.length))
  obtain ⟨b2, o2, rfl, _⟩ := hY.at i (by simpa using (by omega : i < ys.length))
  refine k_skip ?_
  refine k_seq ?_
  refine k_block ?_
  refine k_seq ?_
  refine k_qk 8 rfl rfl rfl rfl rfl ?_
  refine q_step (fun w1 hC => m_sl rfl rfl (o_nil ⟨rfl, hC⟩)) ?_
  refine q_step (fun w1 hC => m_int rfl rfl (o_nil ⟨rfl, hC⟩)) ?_
  refine q_step (fun w1 hC => o_ixs1 Tryd.underlying23 rfl rfl rfl hin (o_nil ⟨rfl, hC⟩)) ?_
  refine q_step (fun w1 hC => o_ld rfl rfl (hX.cellK (hk3.tr hC) (iv_at xs i (by omega))) (o_nil ⟨rfl, hC⟩)) ?_
  refine q_step (fun w1 hC => m_sl rfl rfl (o_nil ⟨rfl, hC⟩)) ?_
  refine q_step (fun w1 hC => m_int rfl rfl (o_nil ⟨rfl, hC⟩)) ?_
  refine q_step (fun w1 hC => o_ixs1 Tryd.underlying23 rfl rfl rfl hin (o_nil ⟨rfl, hC⟩)) ?_
  refine q_step (fun w1 hC => o_ld rfl rfl (hY.cellK (hk3.tr hC) (iv_at ys i (by omega))) (o_nil ⟨rfl, hC⟩)) ?_
  refine q_nil ?_
  intro w4 hC4
  refine b_neq rfl rfl ?_
  refine o_nil ?_
  refine k_cond rfl (fun h => ?_) (fun h => ?_)
  ·
    refine k_seq ?_
    refine k_region ?_
    refine m_bool rfl rfl ?_
    refine o_nil ?_
    refine k_ret (ret_tmps (ts := [4]) (v := .bool _) rfl rfl ?_)
    exact ⟨congrArg Value.bool (decide_eq_false (fun he => by subst he; exact h rfl)).symm, hk3.tr hC4⟩
  refine k_skip ?_
  refine k_blk ?_
  refine k_region ?_
  refine m_int rfl rfl ?_
  refine n_add rfl rfl (by omega) ?_
  refine m_int rfl rfl ?_
  refine o_nil ?_
  refine k_goal ⟨i + 1, ⟨rfl, rfl, rfl, trivial⟩, ⟨by omega, ?_, hk3.tr hC4⟩, by omega⟩
  intro j hj
  by_cases hji : j = i
  · subst hji
    rw [hx, hy, Decidable.of_not_not h]
  · exact hpre j (by omega)
end Go.Proofs.YtchbidckckmobaaDoor

/- The walks of both Refs. No condition beyond what each contract names. -/
namespace Go.Proofs.YtchbidckckmobaaDoor
open Go.RowKit E
set_option linter.unusedVariables false
set_option linter.unusedSimpArgs false
set_option maxRecDepth 100000
attribute [local irreducible] ow qw kw kq cw opW Ret
theorem inf3 : infB Tryd.prog 3 1 8 (.int .i64 0) := by
  refine ⟨_, rfl, rfl, rfl, rfl⟩
/-- a new slice of ints -/
def SlNew (w w' : World) (v : Value) (xs : List Int) : Prop := ∃ a2 c2, v = .slice a2 xs.length c2 ∧ Sl w' 3 1 a2 xs.length c2 (xs.map iv) ∧ Keep [] w w' ∧ ∀ q, a2 = some q → w.heap.size ≤ q.block
theorem SlNew.nil {w w' : World} {xs : List Int} (h : xs = []) (hk : Keep [] w w') : SlNew w w' (.slice none 0 0) xs := by
  subst h
  exact ⟨none, 0, rfl, Sl.nil _ _ _, hk, by simp⟩
/-- the first places of a block's references -/
def refB (kind mask : Int) (i : Nat) : Bool := decide (kind = 3 ∨ (kind = 1 ∧ mask / 2 ^ i % 2 = 1))
def refU (kind mask p : Int) : Nat → List Int
  | 0 => []
  | i + 1 => refU kind mask p i ++ (if refB kind mask i then [p + 1 + (i : Int)] else [])
theorem refU_le (kind mask p : Int) (i : Nat) : (refU kind mask p i).length ≤ i := by
  induction i with
  | zero => simp [refU]
  | succ i ih => unfold refU; rw [List.length_append]; split <;> simp <;> omega
theorem refU_two (kind mask p : Int) (h : kind ≠ 3 ∧ kind ≠ 1) (i : Nat) : refU kind mask p i = [] := by
  induction i with
  | zero => rfl
  | succ i ih =>
    unfold refU
    have : refB kind mask i = false := decide_eq_false (by omega)
    rw [ih, this]; rfl
def refsO (o : Int × Int × Int × Int × Int) (len p : Int) : List Int := if o.2.2.2.2 = 0 ∧ o.2.2.1 ≤ len - p - 1 then refU o.1 o.2.2.2.1 p o.2.2.1.toNat else []
def refsW (ws : List Int) (p : Int) : List Int := if 0 ≤ p ∧ p < ws.length then refsO (openW (ws.getD p.toNat 0)) ws.length p else []
theorem refsW_out (ws : List Int) (p : Int) (h : ¬ (0 ≤ p ∧ p < ws.length)) : refsW ws p = [] := if_neg h
theorem refsW_at (ws : List Int) (k : Nat) (h : k < ws.length) : refsW ws (k : Int) = refsO (openW ws[k]) ws.length (k : Int) := by
  unfold refsW
  rw [if_pos (by omega), Int.toNat_natCast, List.getD_eq_getElem?_getD, List.getElem?_eq_getElem h]; rfl
structure OpenF (o : Int × Int × Int × Int × Int) : Prop where
  k1 : 1 ≤ o.1
  k3 : o.1 ≤ 3
  n0 : 0 ≤ o.2.2.1
  n1 : o.2.2.1 ≤ 65536
  m0 : 0 ≤ o.2.2.2.1
  m1 : o.2.2.2.1 ≤ 4294967296
  z : o.1 ≠ 1 → o.2.2.2.1 = 0
  f : o.1 = 1 → o.2.2.1 ≤ 32
theorem open_f (x : Int) (h : (openW x).2.2.2.2 = 0) : OpenF (openW x) := by
  unfold openW at h ⊢
  split at h
  · rename_i hh
    rw [if_pos hh]
    unfold headW at hh
    split at hh
    · rename_i hk
      obtain ⟨h1, h2, h3, h4, h5, h6, h7, h8⟩ := hk
      have hm : 0 ≤ pm x ∧ pm x < 4294967296 := by
        by_cases hk : pk x = 1
        · have := h8 hk
          have hp := ipow32 (pn x).toNat (by omega)
          omega
        · have := h7 hk; omega
      exact ⟨h1, h2, h5, h6, hm.1, Int.le_of_lt hm.2, h7, fun hk => (h8 hk).1⟩
    · simp at hh
  · simp at h
theorem maskbit (mask : Int) (i : Nat) (hi : i < 64) :
    IntKind.i64.wrap ((BitVec.ofInt IntKind.i64.bits (mask.fdiv (2 ^ min (BitVec.ofInt 64 (i : Int)).toNat IntKind.i64.bits)) &&& BitVec.ofInt IntKind.i64.bits 1).toNat : Int) = mask / 2 ^ i % 2 := by
  rw [ofN i (by omega), show min i IntKind.i64.bits = i from Nat.min_eq_left (by simp [IntKind.bits]; omega), Int.fdiv_eq_ediv_of_nonneg _ (Int.le_of_lt (Int.pow_pos (by decide)))]
  generalize mask / 2 ^ i = y
  have e : (BitVec.ofInt 64 y &&& BitVec.ofInt 64 1).toNat = (y % 2).toNat := by
    rw [BitVec.toNat_and, ofZ, show (BitVec.ofInt 64 1).toNat = 2 ^ 1 - 1 by decide, Nat.and_two_pow_sub_one_eq_mod]; omega
  show IntKind.i64.wrap ((BitVec.ofInt 64 y &&& BitVec.ofInt 64 1).toNat : Int) = _
  rw [e, IntWalk.i64_in _ (by omega)]; omega

theorem refs_ok (w : World) (a : Option Addr) (n c : Nat) (ws : List Int) (p : Int) (hW : Rd w a (ws.map iv)) (hn : ws.length = n) (hl : n ≤ 1000000000000000) :
    Ret Tryd.prog 25 [.slice a n c, .int .i64 p] w (fun v w' => SlNew w w' v (refsW ws p)) := by
  refine fn_enter (n := 68) Tryd.func25 rfl rfl (Nat.le_of_ble_eq_true rfl) (fun e => ?_)
  refine k_seq ?_
  refine k_region ?_
  refine m_sl rfl rfl ?_
  refine o_nil ?_
  refine k_seq ?_
  refine k_seq ?_
  refine k_region ?_
  refine m_int rfl rfl ?_
  refine b_lss rfl rfl ?_
  refine m_bool rfl rfl ?_
  refine o_split (t := 14) rfl (fun h => ?_) (fun h => ?_)
  ·
    refine g_no rfl rfl rfl ?_
    refine g_no rfl rfl rfl ?_
    refine g_no rfl rfl rfl ?_
    refine g_no rfl rfl rfl ?_
    refine pick_t rfl rfl ?_
    refine o_nil ?_
    refine k_condt rfl ?_
    refine k_seq ?_
    refine k_region ?_
    refine m_sl rfl rfl ?_
    refine o_nil ?_
    refine k_ret (ret_tmps (ts := [4]) (v := .slice _ _ _) rfl rfl ?_)
    exact SlNew.nil (refsW_out _ _ (by omega)) (Keep.refl _ _)
  ·
    refine g_yes rfl rfl ?_
    refine m_int rfl rfl ?_
    refine g_yes rfl rfl ?_
    refine m_sl rfl rfl ?_
    refine g_yes rfl rfl ?_
    refine o_lens Tryd.underlying22 rfl ?_
    refine g_yes rfl rfl ?_
    refine b_geq rfl rfl ?_
    refine pick_f rfl rfl ?_
    refine o_nil ?_
    refine k_cond rfl (fun h => ?_) (fun h => ?_)
    ·
      refine k_seq ?_
      refine k_region ?_
      refine m_sl rfl rfl ?_
      refine o_nil ?_
      refine k_ret (ret_tmps (ts := [4]) (v := .slice _ _ _) rfl rfl ?_)
      exact SlNew.nil (refsW_out _ _ (by omega)) (Keep.refl _ _)
    obtain ⟨k, rfl⟩ : ∃ k : Nat, p = k := ⟨p.toNat, by omega⟩
    have hk : k < n := by omega
    have hr := refsW_at ws k (by omega)
    rw [hr]
    clear hr
    obtain ⟨b1, o1, rfl, _⟩ := hW.at k (by simpa using (by omega : k < ws.length))
    refine k_skip ?_
    refine k_seq ?_
    refine k_region ?_
    refine m_sl rfl rfl ?_
    refine m_int rfl rfl ?_
    refine o_ixs1 Tryd.underlying22 rfl rfl rfl hk ?_
    refine o_ld rfl rfl (hW.cellK (Keep.refl _ _) (iv_at ws k (by omega))) ?_
    refine o_call rfl rfl (open_ok w _) (fun v w1 hv => ?_)
    obtain ⟨rfl, rfl⟩ := hv
    have hF := open_f (ws[k]'(by omega))
    generalize openW (ws[k]'(by omega)) = o at hF ⊢
    obtain ⟨kind, cl, N, mask, er⟩ := o
    simp only at hF ⊢
    refine m_any rfl rfl ?_
    refine o_extr rfl rfl ?_
    refine o_extr rfl rfl ?_
    refine o_extr rfl rfl ?_
    refine o_extr rfl rfl ?_
    refine o_extr rfl rfl ?_
    refine m_int rfl rfl ?_
    refine m_int rfl rfl ?_
    refine m_int rfl rfl ?_
    refine m_int rfl rfl ?_
    refine m_int rfl rfl ?_
    refine o_nil ?_
    refine k_seq ?_
    refine k_seq ?_
    refine k_region ?_
    refine m_int rfl rfl ?_
    refine b_neq rfl rfl ?_
    refine m_bool rfl rfl ?_
    refine o_split (t := 33) rfl (fun h => ?_) (fun h => ?_)
    ·
      refine g_no rfl rfl rfl ?_
      refine g_no rfl rfl rfl ?_
      refine g_no rfl rfl rfl ?_
      refine g_no rfl rfl rfl ?_
      refine g_no rfl rfl rfl ?_
      refine g_no rfl rfl rfl ?_
      refine pick_t rfl rfl ?_
      refine m_bool rfl rfl ?_
      refine g_no rfl rfl rfl ?_
      refine g_no rfl rfl rfl ?_
      refine pick_t rfl rfl ?_
      refine o_nil ?_
      refine k_condt rfl ?_
      refine k_seq ?_
      refine k_region ?_
      refine m_sl rfl rfl ?_
      refine o_nil ?_
      refine k_ret (ret_tmps (ts := [4]) (v := .slice _ _ _) rfl rfl ?_)
      exact SlNew.nil (if_neg (fun H => h H.1)) (Keep.refl _ _)
    ·
      have hz : er = 0 := Decidable.of_not_not h
      obtain ⟨hk1, hk3, hn0, hn1, hm0, hm1, hzz, hff⟩ := hF hz
      simp only at hk1 hk3 hn0 hn1 hm0 hm1 hzz hff
      refine g_yes rfl rfl ?_
      refine m_int rfl rfl ?_
      refine g_yes rfl rfl ?_
      refine m_sl rfl rfl ?_
      refine g_yes rfl rfl ?_
      refine o_lens Tryd.underlying22 rfl ?_
      refine g_yes rfl rfl ?_
      refine m_int rfl rfl ?_
      refine g_yes rfl rfl ?_
      refine n_sub rfl rfl (by omega) ?_
      refine g_yes rfl rfl ?_
      refine b_geq rfl rfl ?_
      refine pick_f rfl rfl ?_
      refine m_bool rfl rfl ?_
      refine o_split (t := 41) rfl (fun h => ?_) (fun h => ?_)
      ·
        refine g_no rfl rfl rfl ?_
        refine g_no rfl rfl rfl ?_
        refine pick_t rfl rfl ?_
        refine o_nil ?_
        refine k_condt rfl ?_
        refine k_seq ?_
        refine k_region ?_
        refine m_sl rfl rfl ?_
        refine o_nil ?_
        refine k_ret (ret_tmps (ts := [4]) (v := .slice _ _ _) rfl rfl ?_)
        exact SlNew.nil (if_neg (fun H => by have := H.2; simp only at this; omega)) (Keep.refl _ _)
      ·
        refine g_yes rfl rfl ?_
        refine m_int rfl rfl ?_
        refine g_yes rfl rfl ?_
        refine b_eql rfl rfl ?_
        refine pick_f rfl rfl ?_
        refine o_nil ?_
        refine k_cond rfl (fun h => ?_) (fun h => ?_)
        ·
          refine k_seq ?_
          refine k_region ?_
          refine m_sl rfl rfl ?_
          refine o_nil ?_
          refine k_ret (ret_tmps (ts := [4]) (v := .slice _ _ _) rfl rfl ?_)
          refine SlNew.nil ?_ (Keep.refl _ _)
          unfold refsO
          split
          · exact refU_two _ _ _ (by simp only; omega) _
          · rfl
        refine k_skip ?_
        refine k_seq ?_
        refine k_region ?_
        refine m_sl rfl rfl ?_
        refine o_nil ?_
        refine k_seq ?_
        refine k_seq ?_
        refine k_region ?_
        refine m_int rfl rfl ?_
        refine m_int rfl rfl ?_
        refine o_nil ?_
        refine k_block ?_
        have hro : refsO (kind, cl, N, mask, er) (ws.length : Int) (k : Int) = refU kind mask (k : Int) N.toNat := if_pos ⟨hz, by simp only; omega⟩
        rw [hro]
        clear hro
        refine k_loop (σ := Nat × Option Addr × Nat × Nat) (fun s => [(1, .int .i64 (k : Int)), (5, .int .i64 kind), (8, .int .i64 mask), (10, .slice s.2.1 s.2.2.1 s.2.2.2), (45, .int .i64 N), (46, .int .i64 (s.1 : Int))]) (fun s w' => (s.1 : Int) ≤ N ∧ s.2.2.1 = (refU kind mask (k : Int) s.1).length ∧ Sl w' 3 1 s.2.1 s.2.2.1 s.2.2.2 ((refU kind mask (k : Int) s.1).map iv) ∧ Keep [] w1 w' ∧ ∀ q, s.2.1 = some q → w1.heap.size ≤ q.block) (fun s => N.toNat - s.1) (0, none, 0, 0) ⟨rfl, rfl, rfl, rfl, rfl, rfl, trivial⟩ ⟨by simp only; omega, rfl, Sl.nil _ _ _, Keep.refl _ _, by simp⟩ (fun s e w3 hJ => ?_)
        obtain ⟨i, a2, m, c2⟩ := s
        obtain ⟨hi, hm, hS, hk3', hfr⟩ := hJ
        simp only at hi hm hS hfr ⊢
        have hle := refU_le kind mask (k : Int) i
        refine k_seq ?_
        refine k_region ?_
        refine b_lss rfl rfl ?_
        refine o_nil ?_
        refine k_seq ?_
        refine k_cond rfl (fun h => ?_) (fun h => ?_)
        rotate_left
        ·
          refine k_exit rfl ?_
          refine k_seq ?_
          refine k_region ?_
          refine m_sl rfl rfl ?_
          refine m_sl rfl rfl ?_
          refine o_nil ?_
          refine k_ret (ret_tmps (ts := [4]) (v := .slice _ _ _) rfl rfl ?_)
          have hiN : N.toNat = i := by omega
          rw [hiN]
          subst hm
          exact ⟨a2, c2, rfl, hS, hk3', hfr⟩
        refine k_skip ?_
        refine k_seq ?_
        refine k_block ?_
        refine k_seq ?_
        refine k_region ?_
        refine m_int rfl rfl ?_
        refine m_int rfl rfl ?_
        refine o_nil ?_
        refine k_seq ?_
        refine k_region ?_
        refine m_int rfl rfl ?_
        refine b_eql rfl rfl ?_
        refine m_bool rfl rfl ?_
        refine o_split (t := 51) rfl (fun h => ?_) (fun h => ?_)
        ·
          refine g_no rfl rfl rfl ?_
          refine g_no rfl rfl rfl ?_
          refine g_no rfl rfl rfl ?_
          refine g_no rfl rfl rfl ?_
          refine g_no rfl rfl rfl ?_
          refine g_no rfl rfl rfl ?_
          refine pick_t rfl rfl ?_
          refine o_nil ?_
          refine k_condt rfl ?_
          refine k_region ?_
          refine m_sl rfl rfl ?_
          refine m_int rfl rfl ?_
          refine n_add rfl rfl (by omega) ?_
          refine m_int rfl rfl ?_
          refine n_add rfl rfl (by omega) ?_
          refine o_bsl (E := 3) (cs := #[.int .i64 ((k : Int) + 1 + i)]) rfl (fun _ => by kernel_rfl) (fun g w4 hB4 hK4 hb4 hZ4 => ?_)
          refine o_app Tryd.underlying23 inf3 rfl (by decide) rfl rfl (hS.new hK4) hB4.rd rfl (by intro u hu; simp at hu; subst hu; rfl) (by simp [maxLen]; omega) (by omega) (fun a5 c5 w5 hS5 hK5 hv5 => ?_)
          refine m_sl rfl rfl ?_
          refine o_nil ?_
          refine k_blk ?_
          refine k_region ?_
          refine n_add rfl rfl (by omega) ?_
          refine m_int rfl rfl ?_
          refine o_nil ?_
          have hb : refB kind mask i = true := decide_eq_true (by omega)
          have hs : refU kind mask (k : Int) (i + 1) = refU kind mask (k : Int) i ++ [(k : Int) + 1 + i] := by show _ ++ _ = _; rw [hb]; rfl
          refine k_goal ⟨(i + 1, a5, m + 1, c5), ⟨rfl, rfl, rfl, rfl, rfl, rfl, trivial⟩, ⟨by simp only; omega, ?_, ?_, Keep.trb (hk3'.tr hK4) hK5 hfr, ?_⟩, by simp only; omega⟩
          · rw [hs, List.length_append, ← hm]; rfl
          · rw [hs, List.map_append]; exact hS5
          · intro q hq
            have hsz := (hk3'.tr hK4).size
            rcases hv5 with ⟨h1, _⟩ | ⟨g5, h1, h2, _⟩
            · exact hfr q (h1.symm.trans hq)
            · have : q = ⟨g5, 0, none⟩ := by rw [h1] at hq; simpa using hq.symm
              rw [this]; simp only; omega
        ·
          refine g_yes rfl rfl ?_
          refine m_int rfl rfl ?_
          refine g_yes rfl rfl ?_
          refine m_int rfl rfl ?_
          refine g_yes rfl rfl ?_
          refine cv64 rfl Tryd.underlying49 rfl ?_
          refine g_yes rfl rfl ?_
          refine b_shrn rfl rfl ?_
          refine g_yes rfl rfl ?_
          refine b_and rfl rfl ?_
          rw [maskbit mask i (by omega)]
          refine g_yes rfl rfl ?_
          refine b_eql rfl rfl ?_
          refine pick_f rfl rfl ?_
          refine o_nil ?_
          refine k_cond rfl (fun h => ?_) (fun h => ?_)
          ·
            refine k_region ?_
            refine m_sl rfl rfl ?_
            refine m_int rfl rfl ?_
            refine n_add rfl rfl (by omega) ?_
            refine m_int rfl rfl ?_
            refine n_add rfl rfl (by omega) ?_
            refine o_bsl (E := 3) (cs := #[.int .i64 ((k : Int) + 1 + i)]) rfl (fun _ => by kernel_rfl) (fun g w4 hB4 hK4 hb4 hZ4 => ?_)
            refine o_app Tryd.underlying23 inf3 rfl (by decide) rfl rfl (hS.new hK4) hB4.rd rfl (by intro u hu; simp at hu; subst hu; rfl) (by simp [maxLen]; omega) (by omega) (fun a5 c5 w5 hS5 hK5 hv5 => ?_)
            refine m_sl rfl rfl ?_
            refine o_nil ?_
            refine k_blk ?_
            refine k_region ?_
            refine n_add rfl rfl (by omega) ?_
            refine m_int rfl rfl ?_
            refine o_nil ?_
            have hb : refB kind mask i = true := decide_eq_true (by omega)
            have hs : refU kind mask (k : Int) (i + 1) = refU kind mask (k : Int) i ++ [(k : Int) + 1 + i] := by show _ ++ _ = _; rw [hb]; rfl
            refine k_goal ⟨(i + 1, a5, m + 1, c5), ⟨rfl, rfl, rfl, rfl, rfl, rfl, trivial⟩, ⟨by simp only; omega, ?_, ?_, Keep.trb (hk3'.tr hK4) hK5 hfr, ?_⟩, by simp only; omega⟩
            · rw [hs, List.length_append, ← hm]; rfl
            · rw [hs, List.map_append]; exact hS5
            · intro q hq
              have hsz := (hk3'.tr hK4).size
              rcases hv5 with ⟨h1, _⟩ | ⟨g5, h1, h2, _⟩
              · exact hfr q (h1.symm.trans hq)
              · have : q = ⟨g5, 0, none⟩ := by rw [h1] at hq; simpa using hq.symm
                rw [this]; simp only; omega
          refine k_skip ?_
          refine k_blk ?_
          refine k_region ?_
          refine n_add rfl rfl (by omega) ?_
          refine m_int rfl rfl ?_
          refine o_nil ?_
          have hb : refB kind mask i = false := decide_eq_false (by omega)
          have hs : refU kind mask (k : Int) (i + 1) = refU kind mask (k : Int) i := by show _ ++ _ = _; rw [hb]; simp
          refine k_goal ⟨(i + 1, a2, m, c2), ⟨rfl, rfl, rfl, rfl, rfl, rfl, trivial⟩, ⟨by simp only; omega, ?_, ?_, hk3', hfr⟩, by simp only; omega⟩
          · rw [hs]; exact hm
          · rw [hs]; exact hS
end Go.Proofs.YtchbidckckmobaaDoor

/- The walk of the document's Refs. No condition beyond what each contract names. -/
namespace Go.Proofs.YtchbidckckmobaaDoor
open Go.RowKit E
set_option linter.unusedVariables false
set_option linter.unusedSimpArgs false
set_option maxRecDepth 100000
attribute [local irreducible] ow qw kw kq cw opW Ret
theorem half_mod (x : Int) (h : 0 ≤ x) : x.tmod 2 = x % 2 := Int.tmod_eq_emod_of_nonneg h
theorem div_step (mask : Int) (i : Nat) (h : 0 ≤ mask ∧ mask ≤ 4294967296) : IntKind.i64.wrap ((mask / 2 ^ i).tdiv 2) = mask / 2 ^ (i + 1) := by
  have h1 : 0 ≤ mask / 2 ^ i := Int.ediv_nonneg h.1 (Int.le_of_lt (Int.pow_pos (by decide)))
  have h2 : mask / 2 ^ i ≤ mask := Int.ediv_le_self _ h.1
  rw [wq _ 2 (by omega) (by omega), Int.ediv_ediv_of_nonneg (Int.le_of_lt (Int.pow_pos (by decide))), ← Int.pow_succ]
theorem rrefs_ok (w : World) (a : Option Addr) (n c : Nat) (ws : List Int) (p : Int) (hW : Rd w a (ws.map iv)) (hn : ws.length = n) (hl : n ≤ 1000000000000000) (hx : ∀ x ∈ ws, x ≤ 9223372036854775807) :
    Ret Tryd.prog 65 [.slice a n c, .int .i64 p] w (fun v w' => SlNew w w' v (refsW ws p)) := by
  refine fn_enter (n := 68) Tryd.func65 rfl rfl (Nat.le_of_ble_eq_true rfl) (fun e => ?_)
  refine k_seq ?_
  refine k_region ?_
  refine m_sl rfl rfl ?_
  refine o_nil ?_
  refine k_seq ?_
  refine k_seq ?_
  refine k_region ?_
  refine m_int rfl rfl ?_
  refine b_lss rfl rfl ?_
  refine m_bool rfl rfl ?_
  refine o_split (t := 14) rfl (fun h => ?_) (fun h => ?_)
  ·
    refine g_no rfl rfl rfl ?_
    refine g_no rfl rfl rfl ?_
    refine g_no rfl rfl rfl ?_
    refine g_no rfl rfl rfl ?_
    refine pick_t rfl rfl ?_
    refine o_nil ?_
    refine k_condt rfl ?_
    refine k_seq ?_
    refine k_region ?_
    refine m_sl rfl rfl ?_
    refine o_nil ?_
    refine k_ret (ret_tmps (ts := [4]) (v := .slice _ _ _) rfl rfl ?_)
    exact SlNew.nil (refsW_out _ _ (by omega)) (Keep.refl _ _)
  ·
    refine g_yes rfl rfl ?_
    refine m_int rfl rfl ?_
    refine g_yes rfl rfl ?_
    refine m_sl rfl rfl ?_
    refine g_yes rfl rfl ?_
    refine o_lens Tryd.underlying22 rfl ?_
    refine g_yes rfl rfl ?_
    refine b_geq rfl rfl ?_
    refine pick_f rfl rfl ?_
    refine o_nil ?_
    refine k_cond rfl (fun h => ?_) (fun h => ?_)
    ·
      refine k_seq ?_
      refine k_region ?_
      refine m_sl rfl rfl ?_
      refine o_nil ?_
      refine k_ret (ret_tmps (ts := [4]) (v := .slice _ _ _) rfl rfl ?_)
      exact SlNew.nil (refsW_out _ _ (by omega)) (Keep.refl _ _)
    obtain ⟨k, rfl⟩ : ∃ k : Nat, p = k := ⟨p.toNat, by omega⟩
    have hk : k < n := by omega
    have hr := refsW_at ws k (by omega)
    rw [hr]
    clear hr
    obtain ⟨b1, o1, rfl, _⟩ := hW.at k (by simpa using (by omega : k < ws.length))
    refine k_skip ?_
    refine k_seq ?_
    refine k_region ?_
    refine m_sl rfl rfl ?_
    refine m_int rfl rfl ?_
    refine o_ixs1 Tryd.underlying22 rfl rfl rfl hk ?_
    refine o_ld rfl rfl (hW.cellK (Keep.refl _ _) (iv_at ws k (by omega))) ?_
    refine o_call rfl rfl (ropen_ok w _ (hx _ (List.getElem_mem _))) (fun v w1 hv => ?_)
    obtain ⟨rfl, rfl⟩ := hv
    have hF := open_f (ws[k]'(by omega))
    generalize openW (ws[k]'(by omega)) = o at hF ⊢
    obtain ⟨kind, cl, N, mask, er⟩ := o
    simp only at hF ⊢
    refine m_any rfl rfl ?_
    refine o_extr rfl rfl ?_
    refine o_extr rfl rfl ?_
    refine o_extr rfl rfl ?_
    refine o_extr rfl rfl ?_
    refine o_extr rfl rfl ?_
    refine m_int rfl rfl ?_
    refine m_int rfl rfl ?_
    refine m_int rfl rfl ?_
    refine m_int rfl rfl ?_
    refine m_int rfl rfl ?_
    refine o_nil ?_
    refine k_seq ?_
    refine k_seq ?_
    refine k_region ?_
    refine m_int rfl rfl ?_
    refine b_neq rfl rfl ?_
    refine m_bool rfl rfl ?_
    refine o_split (t := 33) rfl (fun h => ?_) (fun h => ?_)
    ·
      refine g_no rfl rfl rfl ?_
      refine g_no rfl rfl rfl ?_
      refine g_no rfl rfl rfl ?_
      refine g_no rfl rfl rfl ?_
      refine g_no rfl rfl rfl ?_
      refine g_no rfl rfl rfl ?_
      refine g_no rfl rfl rfl ?_
      refine pick_t rfl rfl ?_
      refine o_nil ?_
      refine k_condt rfl ?_
      refine k_seq ?_
      refine k_region ?_
      refine m_sl rfl rfl ?_
      refine o_nil ?_
      refine k_ret (ret_tmps (ts := [4]) (v := .slice _ _ _) rfl rfl ?_)
      exact SlNew.nil (if_neg (fun H => h H.1)) (Keep.refl _ _)
    ·
      have hz : er = 0 := Decidable.of_not_not h
      obtain ⟨hk1, hk3, hn0, hn1, hm0, hm1, hzz, hff⟩ := hF hz
      simp only at hk1 hk3 hn0 hn1 hm0 hm1 hzz hff
      refine g_yes rfl rfl ?_
      refine m_int rfl rfl ?_
      refine g_yes rfl rfl ?_
      refine m_sl rfl rfl ?_
      refine g_yes rfl rfl ?_
      refine o_lens Tryd.underlying22 rfl ?_
      refine g_yes rfl rfl ?_
      refine m_int rfl rfl ?_
      refine g_yes rfl rfl ?_
      refine n_sub rfl rfl (by omega) ?_
      refine g_yes rfl rfl ?_
      refine n_sub rfl rfl (by omega) ?_
      refine g_yes rfl rfl ?_
      refine b_gtr rfl rfl ?_
      refine pick_f rfl rfl ?_
      refine o_nil ?_
      refine k_cond rfl (fun h => ?_) (fun h => ?_)
      ·
        refine k_seq ?_
        refine k_region ?_
        refine m_sl rfl rfl ?_
        refine o_nil ?_
        refine k_ret (ret_tmps (ts := [4]) (v := .slice _ _ _) rfl rfl ?_)
        exact SlNew.nil (if_neg (fun H => by have := H.2; simp only at this; omega)) (Keep.refl _ _)
      refine k_skip ?_
      refine k_seq ?_
      refine k_region ?_
      refine m_sl rfl rfl ?_
      refine o_nil ?_
      refine k_seq ?_
      refine k_seq ?_
      refine k_region ?_
      refine m_int rfl rfl ?_
      refine o_nil ?_
      refine k_block ?_
      have hro : refsO (kind, cl, N, mask, er) (ws.length : Int) (k : Int) = refU kind mask (k : Int) N.toNat := if_pos ⟨hz, by simp only; omega⟩
      rw [hro]
      clear hro
      refine k_loop (σ := Nat × Option Addr × Nat × Nat) (fun s => [(1, .int .i64 (k : Int)), (5, .int .i64 kind), (7, .int .i64 N), (8, .int .i64 (mask / 2 ^ s.1)), (10, .slice s.2.1 s.2.2.1 s.2.2.2), (11, .int .i64 (s.1 : Int))]) (fun s w' => (s.1 : Int) ≤ N ∧ s.2.2.1 = (refU kind mask (k : Int) s.1).length ∧ Sl w' 3 1 s.2.1 s.2.2.1 s.2.2.2 ((refU kind mask (k : Int) s.1).map iv) ∧ Keep [] w1 w' ∧ ∀ q, s.2.1 = some q → w1.heap.size ≤ q.block) (fun s => N.toNat - s.1) (0, none, 0, 0) ⟨rfl, rfl, rfl, (by rw [Int.pow_zero, Int.ediv_one]; rfl), rfl, rfl, trivial⟩ ⟨by simp only; omega, rfl, Sl.nil _ _ _, Keep.refl _ _, by simp⟩ (fun s e w3 hJ => ?_)
      obtain ⟨i, a2, m, c2⟩ := s
      obtain ⟨hi, hm, hS, hk3', hfr⟩ := hJ
      simp only at hi hm hS hfr ⊢
      have hle := refU_le kind mask (k : Int) i
      have hmp : 0 ≤ mask / 2 ^ i := Int.ediv_nonneg hm0 (Int.le_of_lt (Int.pow_pos (by decide)))
      refine k_seq ?_
      refine k_seq ?_
      refine k_region ?_
      refine m_int rfl rfl ?_
      refine m_int rfl rfl ?_
      refine b_lss rfl rfl ?_
      refine o_nil ?_
      refine k_cond rfl (fun h => ?_) (fun h => ?_)
      rotate_left
      ·
        refine k_exit rfl ?_
        refine k_seq ?_
        refine k_region ?_
        refine m_sl rfl rfl ?_
        refine m_sl rfl rfl ?_
        refine o_nil ?_
        refine k_ret (ret_tmps (ts := [4]) (v := .slice _ _ _) rfl rfl ?_)
        have hiN : N.toNat = i := by omega
        rw [hiN]
        subst hm
        exact ⟨a2, c2, rfl, hS, hk3', hfr⟩
      refine k_skip ?_
      refine k_seq ?_
      refine k_block ?_
      refine k_seq ?_
      refine k_seq ?_
      refine k_region ?_
      refine m_int rfl rfl ?_
      refine b_eql rfl rfl ?_
      refine m_bool rfl rfl ?_
      refine o_split (t := 49) rfl (fun h => ?_) (fun h => ?_)
      ·
        refine g_no rfl rfl rfl ?_
        refine g_no rfl rfl rfl ?_
        refine g_no rfl rfl rfl ?_
        refine g_un rfl rfl ?_
        refine g_un rfl rfl ?_
        refine g_un rfl rfl ?_
        refine g_no rfl rfl rfl ?_
        refine pick_t rfl rfl ?_
        refine o_nil ?_
        refine k_condt rfl ?_
        refine k_region ?_
        refine m_sl rfl rfl ?_
        refine m_int rfl rfl ?_
        refine n_add rfl rfl (by omega) ?_
        refine m_int rfl rfl ?_
        refine n_add rfl rfl (by omega) ?_
        refine o_bsl (E := 3) (cs := #[.int .i64 ((k : Int) + 1 + i)]) rfl (fun _ => by kernel_rfl) (fun g w4 hB4 hK4 hb4 hZ4 => ?_)
        refine o_app Tryd.underlying23 inf3 rfl (by decide) rfl rfl (hS.new hK4) hB4.rd rfl (by intro u hu; simp at hu; subst hu; rfl) (by simp [maxLen]; omega) (by omega) (fun a5 c5 w5 hS5 hK5 hv5 => ?_)
        refine m_sl rfl rfl ?_
        refine o_nil ?_
        refine k_region ?_
        refine m_int rfl rfl ?_
        refine b_quo rfl rfl (by omega) ?_
        rw [div_step mask i ⟨hm0, hm1⟩]
        refine m_int rfl rfl ?_
        refine o_nil ?_
        refine k_blk ?_
        refine k_region ?_
        refine m_int rfl rfl ?_
        refine n_add rfl rfl (by omega) ?_
        refine m_int rfl rfl ?_
        refine o_nil ?_
        have hb : refB kind mask i = true := decide_eq_true (by omega)
        have hs : refU kind mask (k : Int) (i + 1) = refU kind mask (k : Int) i ++ [(k : Int) + 1 + i] := by show _ ++ _ = _; rw [hb]; rfl
        refine k_goal ⟨(i + 1, a5, m + 1, c5), ⟨rfl, rfl, rfl, rfl, rfl, rfl, trivial⟩, ⟨by simp only; omega, ?_, ?_, Keep.trb (hk3'.tr hK4) hK5 hfr, ?_⟩, by simp only; omega⟩
        · rw [hs, List.length_append, ← hm]; rfl
        · rw [hs, List.map_append]; exact hS5
        · intro q hq
          have hsz := (hk3'.tr hK4).size
          rcases hv5 with ⟨h1, _⟩ | ⟨g5, h1, h2, _⟩
          · exact hfr q (h1.symm.trans hq)
          · have : q = ⟨g5, 0, none⟩ := by rw [h1] at hq; simpa using hq.symm
            rw [this]; simp only; omega
      ·
        refine g_yes rfl rfl ?_
        refine m_int rfl rfl ?_
        refine g_yes rfl rfl ?_
        refine b_eql rfl rfl ?_
        refine g_yes rfl rfl ?_
        refine m_bool rfl rfl ?_
        refine o_split (t := 52) rfl (fun h => ?_) (fun h => ?_)
        ·
          refine g_yes rfl rfl ?_
          refine m_int rfl rfl ?_
          refine g_yes rfl rfl ?_
          refine b_rem rfl rfl (by omega) ?_
          rw [half_mod _ hmp]
          refine g_yes rfl rfl ?_
          refine b_eql rfl rfl ?_
          refine g_yes rfl rfl ?_
          refine pick_t rfl rfl ?_
          refine pick_f rfl rfl ?_
          refine o_nil ?_
          refine k_cond rfl (fun h => ?_) (fun h => ?_)
          ·
            refine k_region ?_
            refine m_sl rfl rfl ?_
            refine m_int rfl rfl ?_
            refine n_add rfl rfl (by omega) ?_
            refine m_int rfl rfl ?_
            refine n_add rfl rfl (by omega) ?_
            refine o_bsl (E := 3) (cs := #[.int .i64 ((k : Int) + 1 + i)]) rfl (fun _ => by kernel_rfl) (fun g w4 hB4 hK4 hb4 hZ4 => ?_)
            refine o_app Tryd.underlying23 inf3 rfl (by decide) rfl rfl (hS.new hK4) hB4.rd rfl (by intro u hu; simp at hu; subst hu; rfl) (by simp [maxLen]; omega) (by omega) (fun a5 c5 w5 hS5 hK5 hv5 => ?_)
            refine m_sl rfl rfl ?_
            refine o_nil ?_
            refine k_region ?_
            refine m_int rfl rfl ?_
            refine b_quo rfl rfl (by omega) ?_
            rw [div_step mask i ⟨hm0, hm1⟩]
            refine m_int rfl rfl ?_
            refine o_nil ?_
            refine k_blk ?_
            refine k_region ?_
            refine m_int rfl rfl ?_
            refine n_add rfl rfl (by omega) ?_
            refine m_int rfl rfl ?_
            refine o_nil ?_
            have hb : refB kind mask i = true := decide_eq_true (by omega)
            have hs : refU kind mask (k : Int) (i + 1) = refU kind mask (k : Int) i ++ [(k : Int) + 1 + i] := by show _ ++ _ = _; rw [hb]; rfl
            refine k_goal ⟨(i + 1, a5, m + 1, c5), ⟨rfl, rfl, rfl, rfl, rfl, rfl, trivial⟩, ⟨by simp only; omega, ?_, ?_, Keep.trb (hk3'.tr hK4) hK5 hfr, ?_⟩, by simp only; omega⟩
            · rw [hs, List.length_append, ← hm]; rfl
            · rw [hs, List.map_append]; exact hS5
            · intro q hq
              have hsz := (hk3'.tr hK4).size
              rcases hv5 with ⟨h1, _⟩ | ⟨g5, h1, h2, _⟩
              · exact hfr q (h1.symm.trans hq)
              · have : q = ⟨g5, 0, none⟩ := by rw [h1] at hq; simpa using hq.symm
                rw [this]; simp only; omega
          refine k_skip ?_
          refine k_region ?_
          refine m_int rfl rfl ?_
          refine b_quo rfl rfl (by omega) ?_
          rw [div_step mask i ⟨hm0, hm1⟩]
          refine m_int rfl rfl ?_
          refine o_nil ?_
          refine k_blk ?_
          refine k_region ?_
          refine m_int rfl rfl ?_
          refine n_add rfl rfl (by omega) ?_
          refine m_int rfl rfl ?_
          refine o_nil ?_
          have hb : refB kind mask i = false := decide_eq_false (by omega)
          have hs : refU kind mask (k : Int) (i + 1) = refU kind mask (k : Int) i := by show _ ++ _ = _; rw [hb]; simp
          refine k_goal ⟨(i + 1, a2, m, c2), ⟨rfl, rfl, rfl, rfl, rfl, rfl, trivial⟩, ⟨by simp only; omega, ?_, ?_, hk3', hfr⟩, by simp only; omega⟩
          · rw [hs]; exact hm
          · rw [hs]; exact hS
        ·
          refine g_no rfl rfl rfl ?_
          refine g_no rfl rfl rfl ?_
          refine g_no rfl rfl rfl ?_
          refine g_yes rfl rfl ?_
          refine pick_f rfl rfl ?_
          refine pick_f rfl rfl ?_
          refine o_nil ?_
          refine k_condf rfl ?_
          refine k_skip ?_
          refine k_region ?_
          refine m_int rfl rfl ?_
          refine b_quo rfl rfl (by omega) ?_
          rw [div_step mask i ⟨hm0, hm1⟩]
          refine m_int rfl rfl ?_
          refine o_nil ?_
          refine k_blk ?_
          refine k_region ?_
          refine m_int rfl rfl ?_
          refine n_add rfl rfl (by omega) ?_
          refine m_int rfl rfl ?_
          refine o_nil ?_
          have hb : refB kind mask i = false := decide_eq_false (by omega)
          have hs : refU kind mask (k : Int) (i + 1) = refU kind mask (k : Int) i := by show _ ++ _ = _; rw [hb]; simp
          refine k_goal ⟨(i + 1, a2, m, c2), ⟨rfl, rfl, rfl, rfl, rfl, rfl, trivial⟩, ⟨by simp only; omega, ?_, ?_, hk3', hfr⟩, by simp only; omega⟩
          · rw [hs]; exact hm
          · rw [hs]; exact hS
end Go.Proofs.YtchbidckckmobaaDoor

/- What the blocks of words are; the walk of the program's Blocks. No condition beyond what each contract names. -/
namespace Go.Proofs.YtchbidckckmobaaDoor
open Go.RowKit E
set_option linter.unusedVariables false
set_option linter.unusedSimpArgs false
set_option maxRecDepth 100000
attribute [local irreducible] ow qw kw kq cw opW Ret
def chain (ws : List Int) (p : Nat) : Option (List Int) :=
  if h : p < ws.length then
    if (openW (ws.getD p 0)).2.2.2.2 = 0 ∧ (openW (ws.getD p 0)).2.2.1 ≤ (ws.length : Int) - p - 1 then (chain ws (p + 1 + (openW (ws.getD p 0)).2.2.1.toNat)).map ((p : Int) :: ·) else none
  else some []
termination_by ws.length - p
theorem chain_end (ws : List Int) (p : Nat) (h : ¬ p < ws.length) : chain ws p = some [] := by rw [chain, dif_neg h]
theorem chain_no (ws : List Int) (p : Nat) (h : p < ws.length) (hc : ¬ ((openW (ws[p])).2.2.2.2 = 0 ∧ (openW (ws[p])).2.2.1 ≤ (ws.length : Int) - p - 1)) : chain ws p = none := by
  have e : ws.getD p 0 = ws[p] := by rw [List.getD_eq_getElem?_getD, List.getElem?_eq_getElem h]; rfl
  rw [chain, dif_pos h, e, if_neg hc]
theorem chain_yes (ws : List Int) (p : Nat) (h : p < ws.length) (hc : (openW (ws[p])).2.2.2.2 = 0 ∧ (openW (ws[p])).2.2.1 ≤ (ws.length : Int) - p - 1) : chain ws p = (chain ws (p + 1 + (openW (ws[p])).2.2.1.toNat)).map ((p : Int) :: ·) := by
  have e : ws.getD p 0 = ws[p] := by rw [List.getD_eq_getElem?_getD, List.getElem?_eq_getElem h]; rfl
  rw [chain, dif_pos h, e, if_pos hc]
def refOk (ws L : List Int) (b : Int) : Prop := ∀ r ∈ refsW ws b, ws.getD r.toNat 0 ∈ (0 :: L)
instance (ws L : List Int) (b : Int) : Decidable (refOk ws L b) := by unfold refOk; infer_instance
def blocksW (ws : List Int) : Option (List Int) :=
  if ws.length = 0 ∨ ws.getD 0 0 ≠ 0 then none else
  match chain ws 1 with
  | none => none
  | some L => if ∀ b ∈ L, refOk ws L b then some L else none
/-- what Blocks answers -/
def BlkRes (w w' : World) (v : Value) (ws : List Int) : Prop :=
  match blocksW ws with
  | some L => ∃ s, v = .tuple #[s, .int .i64 0] ∧ SlNew w w' s L
  | none => v = .tuple #[.slice none 0 0, .int .i64 24] ∧ Keep [] w w'
theorem blk_none {w w' : World} {ws : List Int} (h : blocksW ws = none) (hk : Keep [] w w') : BlkRes w w' (.tuple #[.slice none 0 0, .int .i64 24]) ws := by
  unfold BlkRes; rw [h]; exact ⟨rfl, hk⟩
theorem blk_some {w w' : World} {ws L : List Int} {s : Value} (h : blocksW ws = some L) (hs : SlNew w w' s L) : BlkRes w w' (.tuple #[s, .int .i64 0]) ws := by
  unfold BlkRes; rw [h]; exact ⟨s, rfl, hs⟩
theorem blocks_c (ws : List Int) (h0 : 0 < ws.length) (hz : ws[0] = 0) (hc : chain ws 1 = none) : blocksW ws = none := by
  have e : ws.getD 0 0 = ws[0] := by rw [List.getD_eq_getElem?_getD, List.getElem?_eq_getElem h0]; rfl
  unfold blocksW
  rw [if_neg (by rw [e]; omega), hc]
theorem blocks_b (ws L : List Int) (h0 : 0 < ws.length) (hz : ws[0] = 0) (hc : chain ws 1 = some L) : blocksW ws = if ∀ b ∈ L, refOk ws L b then some L else none := by
  have e : ws.getD 0 0 = ws[0] := by rw [List.getD_eq_getElem?_getD, List.getElem?_eq_getElem h0]; rfl
  unfold blocksW
  rw [if_neg (by rw [e]; omega), hc]
theorem refU_lt (kind mask p : Int) (i : Nat) : ∀ r ∈ refU kind mask p i, p + 1 ≤ r ∧ r ≤ p + i := by
  induction i with
  | zero => intro r hr; simp [refU] at hr
  | succ i ih =>
    intro r hr
    unfold refU at hr
    rcases List.mem_append.1 hr with h | h
    · have := ih r h; omega
    · split at h
      · simp at h; omega
      · simp at h
theorem refs_lt (ws : List Int) (p : Int) : ∀ r ∈ refsW ws p, 0 ≤ r ∧ r < ws.length := by
  intro r hr
  unfold refsW at hr
  split at hr
  · unfold refsO at hr
    split at hr
    · rename_i h1 h2
      have := refU_lt _ _ _ _ r hr
      omega
    · simp at hr
  · simp at hr
theorem refs_len (ws : List Int) (p : Int) : (refsW ws p).length ≤ 65536 := by
  unfold refsW
  split
  · unfold refsO
    split
    · rename_i h1 h2
      have hF := open_f _ h2.1
      have := refU_le (openW (ws.getD p.toNat 0)).1 (openW (ws.getD p.toNat 0)).2.2.2.1 p (openW (ws.getD p.toNat 0)).2.2.1.toNat
      have h3 := hF.n1
      omega
    · simp
  · simp
theorem inf4 : infB Tryd.prog 4 1 1 (.bool false) := by
  refine ⟨_, rfl, rfl, rfl, rfl⟩
theorem sl_mp {κ : Type} {w : World} {E : TypeId} {sz : Nat} {a : Option Addr} {m c r : Nat} {xs : List Value} {kv : κ → Value} {l : List (κ × Value)} (hs : Sl w E sz a m c xs) (hm : Mp w r kv l) : r ∉ blkOf a := by
  obtain ⟨_, hs⟩ := hs
  obtain ⟨es, ck, hh, _⟩ := hm
  rcases hs with ⟨rfl, _⟩ | ⟨g, cur, rfl, hb, _⟩
  · simp [blkOf]
  · intro hr
    simp [blkOf] at hr
    subst hr
    unfold Blk at hb
    rw [hh] at hb
    simp at hb
/-- the map of the heads -/
def HM (l : List (Int × Value)) (L : List Int) : Prop := ∀ x, getM l x = if x ∈ (0 :: L) then some (.bool true) else none
theorem HM.put {l : List (Int × Value)} {L : List Int} (h : HM l L) (p : Int) : HM (putM l p (.bool true)) (L ++ [p]) := by
  intro x
  rw [getM_put, h x]
  by_cases hx : x = p
  · subst hx; simp
  · simp [hx]
theorem HM.look {l : List (Int × Value)} {L : List Int} (h : HM l L) (x : Int) : (getM l x).getD (.bool false) = .bool (decide (x ∈ (0 :: L))) := by
  rw [h x]
  by_cases hx : x ∈ (0 :: L)
  · rw [if_pos hx, decide_eq_true hx]; rfl
  · rw [if_neg hx, decide_eq_false hx]; rfl
end Go.Proofs.YtchbidckckmobaaDoor

/- The walk of the program's Blocks. No condition beyond what each contract names. -/
namespace Go.Proofs.YtchbidckckmobaaDoor
open Go.RowKit E
set_option linter.unusedVariables false
set_option linter.unusedSimpArgs false
set_option maxRecDepth 100000
attribute [local irreducible] ow qw kw kq cw opW Ret
theorem getD_at (ws : List Int) (k : Nat) (h : k < ws.length) : ws.getD k 0 = ws[k] := by rw [List.getD_eq_getElem?_getD, List.getElem?_eq_getElem h]; rfl
theorem fresh_app2 {w w4 w5 : World} {a2 a5 : Option Addr} (hfr : ∀ q, a2 = some q → w.heap.size ≤ q.block) (hk : Keep [] w w4) (hv5 : (a5 = a2 ∧ w5.heap.size = w4.heap.size) ∨ (∃ g, a5 = some ⟨g, 0, none⟩ ∧ w4.heap.size = g ∧ w5.heap.size = g + 1)) : ∀ q, a5 = some q → w.heap.size ≤ q.block := by
  intro q hq
  have hsz := hk.size
  rcases hv5 with ⟨h1, _⟩ | ⟨g5, h1, h2, _⟩
  · exact hfr q (h1.symm.trans hq)
  · have : q = ⟨g5, 0, none⟩ := by rw [h1] at hq; simpa using hq.symm
    rw [this]; simp only; omega
theorem off_ne {w : World} {E : TypeId} {sz : Nat} {a : Option Addr} {m c r : Nat} {xs : List Value} {κ : Type} {kv : κ → Value} {l : List (κ × Value)} (hs : Sl w E sz a m c xs) (hm : Mp w r kv l) : Off [r] a := by
  intro p hp
  have := sl_mp hs hm
  subst hp
  simp [blkOf] at this ⊢
  exact fun h => this h.symm
theorem blocks_ok (w : World) (a : Option Addr) (n c : Nat) (ws : List Int) (hW : Rd w a (ws.map iv)) (hn : ws.length = n) (hl : n ≤ 10000000000000) :
    Ret Tryd.prog 23 [.slice a n c] w (fun v w' => BlkRes w w' v ws) := by
  refine fn_enter (n := 86) Tryd.func23 rfl rfl (Nat.le_of_ble_eq_true rfl) (fun e => ?_)
  refine k_seq ?_
  refine k_region ?_
  refine m_sl rfl rfl ?_
  refine m_int rfl rfl ?_
  refine o_nil ?_
  refine k_seq ?_
  refine k_seq ?_
  refine k_region ?_
  refine m_sl rfl rfl ?_
  refine o_lens Tryd.underlying22 rfl ?_
  refine b_eql rfl rfl ?_
  refine m_bool rfl rfl ?_
  refine o_split (t := 19) rfl (fun h => ?_) (fun h => ?_)
  ·
    refine g_no rfl rfl rfl ?_
    refine g_no rfl rfl rfl ?_
    refine g_no rfl rfl rfl ?_
    refine g_no rfl rfl rfl ?_
    refine pick_t rfl rfl ?_
    refine o_nil ?_
    refine k_condt rfl ?_
    refine k_seq ?_
    refine k_region ?_
    refine m_sl rfl rfl ?_
    refine m_int rfl rfl ?_
    refine o_nil ?_
    refine k_ret (ret_tmps (ts := [2, 3]) (v := .tuple #[.slice _ _ _, .int _ _]) rfl rfl ?_)
    exact blk_none (if_pos (.inl (by omega))) (Keep.refl _ _)
  ·
    have h0 : 0 < n := by omega
    obtain ⟨b1, o1, rfl, _⟩ := hW.at 0 (by simpa using (by omega : 0 < ws.length))
    refine g_yes rfl rfl ?_
    refine m_sl rfl rfl ?_
    refine g_yes rfl rfl ?_
    refine o_ixs1 (m := 0) Tryd.underlying22 rfl rfl rfl h0 ?_
    refine g_yes rfl rfl ?_
    refine o_ld rfl rfl (hW.cellK (Keep.refl _ _) (iv_at ws 0 (by omega))) ?_
    refine g_yes rfl rfl ?_
    refine b_neq rfl rfl ?_
    refine pick_f rfl rfl ?_
    refine o_nil ?_
    refine k_cond rfl (fun h => ?_) (fun h => ?_)
    ·
      refine k_seq ?_
      refine k_region ?_
      refine m_sl rfl rfl ?_
      refine m_int rfl rfl ?_
      refine o_nil ?_
      refine k_ret (ret_tmps (ts := [2, 3]) (v := .tuple #[.slice _ _ _, .int _ _]) rfl rfl ?_)
      exact blk_none (if_pos (.inr (by rw [getD_at ws 0 (by omega)]; exact h))) (Keep.refl _ _)
    have hz : ws[0]'(by omega) = 0 := Decidable.of_not_not h
    refine k_skip ?_
    refine k_seq ?_
    refine k_region ?_
    refine m_sl rfl rfl ?_
    refine o_nil ?_
    refine k_seq ?_
    refine k_region ?_
    refine o_mkmap (Value.int .i64) (fun r w2 hM2 hK2 hb2 hZ2 => ?_)
    refine o_mput (κ := Int) (q := 0) Tryd.underlying104 (key_int Tryd.underlying2) rfl rfl rfl hM2 (.inr rfl) (fun w3 hM3 hK3 hZ3 => ?_)
    refine m_map rfl rfl ?_
    refine m_map rfl rfl ?_
    refine o_nil ?_
    refine k_seq ?_
    refine k_seq ?_
    refine k_region ?_
    refine m_int rfl rfl ?_
    refine o_nil ?_
    refine k_block ?_
    refine k_loop (σ := Nat × List Int × Option Addr × Nat × List (Int × Value)) (fun s => [(0, .slice (some ⟨b1, o1, none⟩) n c), (4, .slice s.2.2.1 s.2.1.length s.2.2.2.1), (5, .map (some r)), (6, .int .i64 (s.1 : Int))]) (fun s w' => 1 ≤ s.1 ∧ s.1 ≤ n ∧ s.2.1.length < s.1 ∧ chain ws 1 = (chain ws s.1).map (s.2.1 ++ ·) ∧ Sl w' 3 1 s.2.2.1 s.2.1.length s.2.2.2.1 (s.2.1.map iv) ∧ Mp w' r (Value.int .i64) s.2.2.2.2 ∧ HM s.2.2.2.2 s.2.1 ∧ Keep [] w w' ∧ ∀ q, s.2.2.1 = some q → w.heap.size ≤ q.block) (fun s => n - s.1) (1, [], none, 0, putM [] 0 (.bool true)) ⟨rfl, rfl, rfl, rfl, trivial⟩ ⟨by simp, by simp only; omega, by simp, by simp, Sl.nil _ _ _, hM3, ?_, hK2.tr1 hK3 (by omega), by simp⟩ (fun s e w4 hJ => ?_)
    · intro x
      rw [getM_put, getM_nil]
      simp
    obtain ⟨p, outs, a2, c2, l⟩ := s
    obtain ⟨hp1, hpn, hol, hch, hS, hM, hH, hk4, hfr⟩ := hJ
    simp only at hp1 hpn hol hch hS hM hH hk4 hfr ⊢
    refine k_seq ?_
    refine k_seq ?_
    refine k_region ?_
    refine m_int rfl rfl ?_
    refine m_sl rfl rfl ?_
    refine o_lens Tryd.underlying22 rfl ?_
    refine b_lss rfl rfl ?_
    refine o_nil ?_
    refine k_cond rfl (fun h => ?_) (fun h => ?_)
    rotate_left
    ·
      have hc1 : chain ws 1 = some outs := by
       rw [hch, chain_end ws p (by omega)]; simp
      have hbb := blocks_b ws outs (by omega) hz hc1
      refine k_exit rfl ?_
      refine k_seq ?_
      refine k_seq ?_
      refine k_region ?_
      refine m_sl rfl rfl ?_
      refine o_lens Tryd.underlying23 rfl ?_
      refine m_int rfl rfl ?_
      refine o_nil ?_
      refine k_block ?_
      refine k_loop (σ := Nat) (fun i => [(0, .slice (some ⟨b1, o1, none⟩) n c), (4, .slice a2 outs.length c2), (5, .map (some r)), (62, .slice a2 outs.length c2), (63, .int .i64 (outs.length : Int)), (64, .int .i64 (i : Int))]) (fun i w' => i ≤ outs.length ∧ (∀ j b, j < i → outs[j]? = some b → refOk ws outs b) ∧ Keep [] w4 w') (fun i => outs.length - i) 0 ⟨rfl, rfl, rfl, rfl, rfl, rfl, trivial⟩ ⟨by omega, by intro j b hj; omega, Keep.refl _ _⟩ (fun i e w5 hJ => ?_)
      obtain ⟨hi, hpre, hk5⟩ := hJ
      refine k_seq ?_
      refine k_region ?_
      refine b_lss rfl rfl ?_
      refine o_nil ?_
      refine k_seq ?_
      refine k_cond rfl (fun h => ?_) (fun h => ?_)
      rotate_left
      ·
        refine k_exit rfl ?_
        refine k_seq ?_
        refine k_region ?_
        refine m_sl rfl rfl ?_
        refine m_sl rfl rfl ?_
        refine m_int rfl rfl ?_
        refine o_nil ?_
        refine k_ret (ret_tmps (ts := [2, 3]) (v := .tuple #[.slice _ _ _, .int _ _]) rfl rfl ?_)
        refine blk_some (L := outs) ?_ ⟨a2, c2, rfl, hS.new hk5, hk4.tr hk5, hfr⟩
        rw [hbb, if_pos]
        intro b hb
        obtain ⟨j, hj, rfl⟩ := List.getElem_of_mem hb
        exact hpre j _ (by omega) (List.getElem?_eq_getElem hj)
      have hio : i < outs.length := by omega
      obtain ⟨b2, o2, rfl, _⟩ := hS.rd.at i (by simpa using hio)
      refine k_skip ?_
      refine k_seq ?_
      refine k_block ?_
      refine k_seq ?_
      refine k_region ?_
      refine o_ixs1 Tryd.underlying23 rfl rfl rfl hio ?_
      refine o_ld rfl rfl (hS.rd.cellK hk5 (iv_at outs i hio)) ?_
      refine m_int rfl rfl ?_
      refine o_nil ?_
      refine k_seq ?_
      refine k_region ?_
      refine m_sl rfl rfl ?_
      refine m_int rfl rfl ?_
      refine o_call rfl rfl (refs_ok w5 _ n c ws outs[i] (hW.new (hk4.tr hk5)) hn (by omega)) (fun v w6 hv => ?_)
      obtain ⟨a6, c6, rfl, hS6, hK6, hf6⟩ := hv
      have hlen := refs_len ws outs[i]
      have hrl := refs_lt ws outs[i]
      refine o_lens Tryd.underlying23 rfl ?_
      refine m_int rfl rfl ?_
      refine o_nil ?_
      refine k_block ?_
      refine k_loop (σ := Nat) (fun k => [(0, .slice (some ⟨b1, o1, none⟩) n c), (4, .slice (some ⟨b2, o2, none⟩) outs.length c2), (5, .map (some r)), (62, .slice (some ⟨b2, o2, none⟩) outs.length c2), (63, .int .i64 (outs.length : Int)), (64, .int .i64 (i : Int)), (70, .slice a6 (refsW ws outs[i]).length c6), (71, .int .i64 ((refsW ws outs[i]).length : Int)), (72, .int .i64 (k : Int))]) (fun k w' => k ≤ (refsW ws outs[i]).length ∧ (∀ j b, j < k → (refsW ws outs[i])[j]? = some b → ws.getD b.toNat 0 ∈ (0 :: outs)) ∧ Keep [] w6 w') (fun k => (refsW ws outs[i]).length - k) 0 ⟨rfl, rfl, rfl, rfl, rfl, rfl, rfl, rfl, rfl, trivial⟩ ⟨by omega, by intro j b hj; omega, Keep.refl _ _⟩ (fun k e w7 hJ => ?_)
      obtain ⟨hk, hpr3, hk7⟩ := hJ
      refine k_seq ?_
      refine k_region ?_
      refine b_lss rfl rfl ?_
      refine o_nil ?_
      refine k_seq ?_
      refine k_cond rfl (fun h => ?_) (fun h => ?_)
      rotate_left
      ·
        refine k_exit rfl ?_
        refine k_blk ?_
        refine k_region ?_
        refine n_add rfl rfl (by omega) ?_
        refine m_int rfl rfl ?_
        refine o_nil ?_
        refine k_goal ⟨i + 1, ⟨rfl, rfl, rfl, rfl, rfl, rfl, trivial⟩, ⟨by omega, ?_, hk5.tr (hK6.tr hk7)⟩, by omega⟩
        intro j b hj hb
        by_cases hji : j = i
        · subst hji
          rw [List.getElem?_eq_getElem hio] at hb
          obtain rfl := Option.some.inj hb
          intro q hq
          obtain ⟨t, ht, rfl⟩ := List.getElem_of_mem hq
          exact hpr3 t _ (by omega) (List.getElem?_eq_getElem ht)
        · exact hpre j b (by omega) hb
      have hkl : k < (refsW ws outs[i]).length := by omega
      have hkm := List.getElem_mem hkl
      have hrr := hrl _ hkm
      obtain ⟨ρ, hρ⟩ : ∃ ρ : Nat, (refsW ws outs[i])[k] = ρ := ⟨((refsW ws outs[i])[k]).toNat, by omega⟩
      have hρn : ρ < n := by omega
      have hρw : ρ < ws.length := by omega
      obtain ⟨b7, o7, rfl, _⟩ := hS6.rd.at k (by simpa using hkl)
      refine k_skip ?_
      refine k_seq ?_
      refine k_block ?_
      refine k_seq ?_
      refine k_region ?_
      refine o_ixs1 Tryd.underlying23 rfl rfl rfl hkl ?_
      refine o_ld rfl rfl (hS6.rd.cellK hk7 (iv_at _ k hkl)) ?_
      rw [hρ]
      refine m_int rfl rfl ?_
      refine o_nil ?_
      refine k_seq ?_
      refine k_region ?_
      refine m_map rfl rfl ?_
      refine m_sl rfl rfl ?_
      refine m_int rfl rfl ?_
      refine o_ixs1 (m := ρ) Tryd.underlying22 rfl rfl rfl hρn ?_
      refine o_ld rfl rfl (hW.cellK (hk4.tr (hk5.tr (hK6.tr hk7))) (iv_at ws ρ hρw)) ?_
      refine o_look (κ := Int) (q := ws[ρ]) Tryd.underlying104 (key_int Tryd.underlying2) inf4 rfl rfl (hM.keep (hk5.tr (hK6.tr hk7)) (by simp)) (hH.look _) ?_
      refine u_not rfl ?_
      refine o_nil ?_
      refine k_cond rfl (fun h => ?_) (fun h => ?_)
      ·
        refine k_seq ?_
        refine k_region ?_
        refine m_sl rfl rfl ?_
        refine m_int rfl rfl ?_
        refine o_nil ?_
        refine k_ret (ret_tmps (ts := [2, 3]) (v := .tuple #[.slice _ _ _, .int _ _]) rfl rfl ?_)
        refine blk_none ?_ (hk4.tr (hk5.tr (hK6.tr hk7)))
        rw [hbb, if_neg]
        intro H
        have := H outs[i] (List.getElem_mem hio) _ hkm
        rw [hρ, Int.toNat_natCast, getD_at ws ρ hρw] at this
        exact h this
      have hin : ws[ρ] ∈ 0 :: outs := Decidable.of_not_not h
      refine k_skip ?_
      refine k_blk ?_
      refine k_region ?_
      refine n_add rfl rfl (by omega) ?_
      refine m_int rfl rfl ?_
      refine o_nil ?_
      refine k_goal ⟨k + 1, ⟨rfl, rfl, rfl, rfl, rfl, rfl, rfl, rfl, rfl, trivial⟩, ⟨by omega, ?_, hk7⟩, by omega⟩
      intro j b hj hb
      by_cases hji : j = k
      · subst hji
        rw [List.getElem?_eq_getElem hkl] at hb
        obtain rfl := Option.some.inj hb
        rw [hρ, Int.toNat_natCast, getD_at ws ρ hρw]
        exact hin
      · exact hpr3 j b (by omega) hb
    have hpl : p < n := by omega
    have hpw : p < ws.length := by omega
    refine k_skip ?_
    refine k_block ?_
    refine k_seq ?_
    refine k_region ?_
    refine m_sl rfl rfl ?_
    refine m_int rfl rfl ?_
    refine o_ixs1 Tryd.underlying22 rfl rfl rfl hpl ?_
    refine o_ld rfl rfl (hW.cellK hk4 (iv_at ws p hpw)) ?_
    refine o_call rfl rfl (open_ok w4 _) (fun v w5 hv => ?_)
    obtain ⟨rfl, rfl⟩ := hv
    refine m_any rfl rfl ?_
    refine o_extr rfl rfl ?_
    refine o_extr rfl rfl ?_
    refine o_extr rfl rfl ?_
    refine o_extr rfl rfl ?_
    refine o_extr rfl rfl ?_
    refine m_int rfl rfl ?_
    refine m_int rfl rfl ?_
    refine m_int rfl rfl ?_
    refine m_int rfl rfl ?_
    refine m_int rfl rfl ?_
    refine o_nil ?_
    refine k_seq ?_
    refine k_seq ?_
    refine k_region ?_
    refine m_int rfl rfl ?_
    refine b_neq rfl rfl ?_
    refine m_bool rfl rfl ?_
    refine o_split (t := 44) rfl (fun h => ?_) (fun h => ?_)
    ·
      refine g_no rfl rfl rfl ?_
      refine g_no rfl rfl rfl ?_
      refine g_no rfl rfl rfl ?_
      refine g_no rfl rfl rfl ?_
      refine g_no rfl rfl rfl ?_
      refine g_no rfl rfl rfl ?_
      refine pick_t rfl rfl ?_
      refine o_nil ?_
      refine k_condt rfl ?_
      refine k_seq ?_
      refine k_region ?_
      refine m_sl rfl rfl ?_
      refine m_int rfl rfl ?_
      refine o_nil ?_
      refine k_ret (ret_tmps (ts := [2, 3]) (v := .tuple #[.slice _ _ _, .int _ _]) rfl rfl ?_)
      refine blk_none (blocks_c ws (by omega) hz ?_) hk4
      rw [hch, chain_no ws p hpw (fun H => h H.1)]; rfl
    ·
      have he0 : (openW (ws[p])).2.2.2.2 = 0 := Decidable.of_not_not h
      have hF := open_f _ he0
      have hF0 := hF.n0
      have hF1 := hF.n1
      refine g_yes rfl rfl ?_
      refine m_int rfl rfl ?_
      refine g_yes rfl rfl ?_
      refine m_sl rfl rfl ?_
      refine g_yes rfl rfl ?_
      refine o_lens Tryd.underlying22 rfl ?_
      refine g_yes rfl rfl ?_
      refine m_int rfl rfl ?_
      refine g_yes rfl rfl ?_
      refine n_sub rfl rfl (by omega) ?_
      refine g_yes rfl rfl ?_
      refine b_geq rfl rfl ?_
      refine pick_f rfl rfl ?_
      refine o_nil ?_
      refine k_cond rfl (fun h => ?_) (fun h => ?_)
      ·
        refine k_seq ?_
        refine k_region ?_
        refine m_sl rfl rfl ?_
        refine m_int rfl rfl ?_
        refine o_nil ?_
        refine k_ret (ret_tmps (ts := [2, 3]) (v := .tuple #[.slice _ _ _, .int _ _]) rfl rfl ?_)
        refine blk_none (blocks_c ws (by omega) hz ?_) hk4
        rw [hch, chain_no ws p hpw (fun H => by have := H.2; omega)]; rfl
      refine k_skip ?_
      refine k_seq ?_
      refine k_region ?_
      refine m_sl rfl rfl ?_
      refine m_int rfl rfl ?_
      refine o_bsl (E := 3) (cs := #[.int .i64 (p : Int)]) rfl (fun _ => by kernel_rfl) (fun g w6 hB6 hK6 hb6 hZ6 => ?_)
      refine o_app Tryd.underlying23 inf3 rfl (by decide) rfl rfl (hS.new hK6) hB6.rd rfl (by intro u hu; simp at hu; subst hu; rfl) (by simp [maxLen]; omega) (by omega) (fun a7 c7 w7 hS7 hK7 hv7 => ?_)
      have hM7 := (hM.keep hK6 (by simp)).keep hK7 (sl_mp (hS.new hK6) (hM.keep hK6 (by simp)))
      refine m_sl rfl rfl ?_
      refine o_nil ?_
      refine k_seq ?_
      refine k_region ?_
      refine m_map rfl rfl ?_
      refine m_int rfl rfl ?_
      refine o_mput (κ := Int) (q := (p : Int)) Tryd.underlying104 (key_int Tryd.underlying2) rfl rfl rfl hM7 (.inl rfl) (fun w8 hM8 hK8 hZ8 => ?_)
      refine o_nil ?_
      refine k_region ?_
      refine m_int rfl rfl ?_
      refine m_int rfl rfl ?_
      refine n_add rfl rfl (by omega) ?_
      refine n_add rfl rfl (by omega) ?_
      refine m_int rfl rfl ?_
      refine o_nil ?_
      refine k_blk ?_
      have hcy := chain_yes ws p hpw ⟨he0, by omega⟩
      have hk7' := Keep.trb (hk4.tr hK6) hK7 hfr
      refine k_goal ⟨(p + 1 + (openW (ws[p])).2.2.1.toNat, outs ++ [(p : Int)], a7, c7, putM l (p : Int) (.bool true)), ⟨rfl, ?_, rfl, ?_, trivial⟩, ⟨by simp only; omega, by simp only; omega, by simp only [List.length_append, List.length_singleton]; omega, ?_, ?_, hM8, hH.put _, hk7'.tr1 hK8 (by omega), fresh_app2 hfr (hk4.tr hK6) hv7⟩, by simp only; omega⟩
      · simp only [List.length_append]; rfl
      · show Value.int .i64 ((p : Int) + (1 + (openW (ws[p])).2.2.1)) = _
        congr 1
        simp only
        omega
      · simp only
        rw [hch, hcy, Option.map_map]
        congr 1
        funext L
        simp
      · have := hS7.keep hK8 (off_ne hS7 hM7)
        simp only [List.length_append, List.map_append]
        exact this
end Go.Proofs.YtchbidckckmobaaDoor

/- The walk of the document's Blocks. No condition beyond what each contract names. -/
namespace Go.Proofs.YtchbidckckmobaaDoor
open Go.RowKit E
set_option linter.unusedVariables false
set_option linter.unusedSimpArgs false
set_option maxRecDepth 100000
attribute [local irreducible] ow qw kw kq cw opW Ret
/-- the places that begin a block -/
def BG (w : World) (g n : Nat) (L : List Int) : Prop := ∃ cs : Array Value, Blk w g cs 4 ∧ cs.size = n ∧ ∀ k, k < n → cs[k]? = some (.bool (decide ((k : Int) ∈ L)))
theorem BG.keep {S : List Nat} {w w' : World} {g n : Nat} {L : List Int} (h : BG w g n L) (hk : Keep S w w') (hn : g ∉ S) : BG w' g n L := by
  obtain ⟨cs, h1, h2, h3⟩ := h
  exact ⟨cs, h1.keep hk hn, h2, h3⟩
theorem BG.make {w : World} {g n : Nat} (h : Sl w 4 1 (some ⟨g, 0, none⟩) n n (madeCells (Value.cells (.bool false)) (n * 1)).toList) : BG w g n [] := by
  obtain ⟨_, h⟩ := h
  rcases h with ⟨h, _⟩ | ⟨g', cur, hg, hb, _, _, hs, ht⟩
  · simp at h
  · simp at hg
    subst hg
    refine ⟨cur, hb, by omega, fun k hk => ?_⟩
    rw [List.take_of_length_le (by simp; omega)] at ht
    rw [← Array.getElem?_toList, ht]
    show (madeCells #[Value.bool false] (n * 1)).toList[k]? = _
    rw [Nat.mul_one, toList_madeCells_one, List.getElem?_replicate, if_pos hk]
    simp
theorem BG.set {w' : World} {g n p : Nat} {L : List Int} {cs : Array Value} (h2 : cs.size = n) (h3 : ∀ k, k < n → cs[k]? = some (.bool (decide ((k : Int) ∈ L)))) (hb : Blk w' g (cs.setIfInBounds (0 + p) (.bool true)) 4) : BG w' g n (L ++ [(p : Int)]) := by
  refine ⟨_, hb, by simp [h2], fun k hk => ?_⟩
  rw [Nat.zero_add]
  by_cases hkp : k = p
  · subst hkp
    rw [Array.getElem?_setIfInBounds_self_of_lt (by omega)]
    simp
  · rw [Array.getElem?_setIfInBounds_ne (fun h => hkp h.symm), h3 k hk]
    have : ((k : Int) ∈ L ++ [(p : Int)]) ↔ ((k : Int) ∈ L) := by simp; omega
    simp only [this]
theorem sl_bg {w : World} {a : Option Addr} {m c g n : Nat} {xs : List Value} {L : List Int} (hs : Sl w 3 1 a m c xs) (hm : BG w g n L) : g ∉ blkOf a := by
  obtain ⟨_, hs⟩ := hs
  obtain ⟨cs, hb', _⟩ := hm
  rcases hs with ⟨rfl, _⟩ | ⟨g', cur, rfl, hb, _⟩
  · simp [blkOf]
  · intro hr
    simp [blkOf] at hr
    subst hr
    unfold Blk at hb hb'
    rw [hb'] at hb
    simp at hb
theorem off_bg {w : World} {a : Option Addr} {m c g n : Nat} {xs : List Value} {L : List Int} (hs : Sl w 3 1 a m c xs) (hm : BG w g n L) : Off [g] a := by
  intro p hp
  have := sl_bg hs hm
  subst hp
  simp [blkOf] at this ⊢
  exact fun h => this h.symm
theorem chain_rng' (ws : List Int) (d : Nat) : ∀ p, ws.length - p ≤ d → ∀ L, chain ws p = some L → ∀ x ∈ L, 0 ≤ x ∧ x < ws.length := by
  induction d with
  | zero =>
    intro p hp L hL x hx
    rw [chain_end ws p (by omega)] at hL
    obtain rfl := Option.some.inj hL
    simp at hx
  | succ d ih =>
    intro p hp L hL x hx
    by_cases h : p < ws.length
    · by_cases hc : (openW (ws[p])).2.2.2.2 = 0 ∧ (openW (ws[p])).2.2.1 ≤ (ws.length : Int) - p - 1
      · rw [chain_yes ws p h hc] at hL
        obtain ⟨M, hM, rfl⟩ := Option.map_eq_some_iff.1 hL
        rcases List.mem_cons.1 hx with h' | h'
        · omega
        · exact ih _ (by omega) M hM x h'
      · rw [chain_no ws p h hc] at hL
        simp at hL
    · rw [chain_end ws p h] at hL
      obtain rfl := Option.some.inj hL
      simp at hx
theorem chain_rng (ws L : List Int) (h : chain ws 1 = some L) : ∀ x ∈ L, 0 ≤ x ∧ x < ws.length := chain_rng' ws _ 1 (Nat.le_refl _) L h
theorem mem_rng {ws outs : List Int} {x : Int} (h0 : 0 < ws.length) (hr : ∀ x ∈ outs, 0 ≤ x ∧ x < ws.length) (H : x ∈ 0 :: outs) : 0 ≤ x ∧ x < ws.length := by
  rcases List.mem_cons.1 H with h | h
  · omega
  · exact hr x h
theorem rblocks_ok (w : World) (a : Option Addr) (n c : Nat) (ws : List Int) (hW : Rd w a (ws.map iv)) (hn : ws.length = n) (hl : n ≤ 10000000000000) (hx : ∀ x ∈ ws, x ≤ 9223372036854775807) :
    Ret Tryd.prog 64 [.slice a n c] w (fun v w' => BlkRes w w' v ws) := by
  refine fn_enter (n := 108) Tryd.func64 rfl rfl (Nat.le_of_ble_eq_true rfl) (fun e => ?_)
  refine k_seq ?_
  refine k_region ?_
  refine m_sl rfl rfl ?_
  refine m_int rfl rfl ?_
  refine o_nil ?_
  refine k_seq ?_
  refine k_seq ?_
  refine k_region ?_
  refine m_sl rfl rfl ?_
  refine o_lens Tryd.underlying22 rfl ?_
  refine b_eql rfl rfl ?_
  refine m_bool rfl rfl ?_
  refine o_split (t := 19) rfl (fun h => ?_) (fun h => ?_)
  ·
    refine g_no rfl rfl rfl ?_
    refine g_no rfl rfl rfl ?_
    refine g_no rfl rfl rfl ?_
    refine g_no rfl rfl rfl ?_
    refine pick_t rfl rfl ?_
    refine o_nil ?_
    refine k_condt rfl ?_
    refine k_seq ?_
    refine k_region ?_
    refine m_sl rfl rfl ?_
    refine m_int rfl rfl ?_
    refine o_nil ?_
    refine k_ret (ret_tmps (ts := [2, 3]) (v := .tuple #[.slice _ _ _, .int _ _]) rfl rfl ?_)
    exact blk_none (if_pos (.inl (by omega))) (Keep.refl _ _)
  ·
    have h0 : 0 < n := by omega
    obtain ⟨b1, o1, rfl, _⟩ := hW.at 0 (by simpa using (by omega : 0 < ws.length))
    refine g_yes rfl rfl ?_
    refine m_sl rfl rfl ?_
    refine g_yes rfl rfl ?_
    refine o_ixs1 (m := 0) Tryd.underlying22 rfl rfl rfl h0 ?_
    refine g_yes rfl rfl ?_
    refine o_ld rfl rfl (hW.cellK (Keep.refl _ _) (iv_at ws 0 (by omega))) ?_
    refine g_yes rfl rfl ?_
    refine b_neq rfl rfl ?_
    refine pick_f rfl rfl ?_
    refine o_nil ?_
    refine k_cond rfl (fun h => ?_) (fun h => ?_)
    ·
      refine k_seq ?_
      refine k_region ?_
      refine m_sl rfl rfl ?_
      refine m_int rfl rfl ?_
      refine o_nil ?_
      refine k_ret (ret_tmps (ts := [2, 3]) (v := .tuple #[.slice _ _ _, .int _ _]) rfl rfl ?_)
      exact blk_none (if_pos (.inr (by rw [getD_at ws 0 (by omega)]; exact h))) (Keep.refl _ _)
    have hz : ws[0]'(by omega) = 0 := Decidable.of_not_not h
    refine k_skip ?_
    refine k_seq ?_
    refine k_region ?_
    refine m_sl rfl rfl ?_
    refine o_nil ?_
    refine k_seq ?_
    refine k_region ?_
    refine m_sl rfl rfl ?_
    refine o_lens Tryd.underlying22 rfl ?_
    refine o_make (m := n) Tryd.underlying63 inf4 rfl rfl (by simp [maxLen]; omega) (by omega) (fun g w2 hS2 hK2 hb2 hZ2 => ?_)
    obtain ⟨cs2, hB2, hs2, hc2⟩ := BG.make hS2
    refine m_sl rfl rfl ?_
    refine o_nil ?_
    refine k_seq ?_
    refine k_region ?_
    refine m_sl rfl rfl ?_
    refine o_ixs1 (m := 0) Tryd.underlying63 rfl rfl rfl h0 ?_
    refine o_st (v := .bool true) rfl rfl rfl rfl hB2 (by omega) (fun w3 hB3 hK3 hZ3 => ?_)
    have hG3 : BG w3 g n [0] := BG.set (p := 0) hs2 hc2 hB3
    refine o_nil ?_
    refine k_seq ?_
    refine k_seq ?_
    refine k_region ?_
    refine m_int rfl rfl ?_
    refine o_nil ?_
    refine k_block ?_
    refine k_loop (σ := Nat × List Int × Option Addr × Nat) (fun s => [(0, .slice (some ⟨b1, o1, none⟩) n c), (4, .slice s.2.2.1 s.2.1.length s.2.2.2), (5, .slice (some ⟨g, 0, none⟩) n n), (6, .int .i64 (s.1 : Int))]) (fun s w' => 1 ≤ s.1 ∧ s.1 ≤ n ∧ s.2.1.length < s.1 ∧ chain ws 1 = (chain ws s.1).map (s.2.1 ++ ·) ∧ Sl w' 3 1 s.2.2.1 s.2.1.length s.2.2.2 (s.2.1.map iv) ∧ BG w' g n (0 :: s.2.1) ∧ Keep [] w w' ∧ ∀ q, s.2.2.1 = some q → w.heap.size ≤ q.block) (fun s => n - s.1) (1, [], none, 0) ⟨rfl, rfl, rfl, rfl, trivial⟩ ⟨by simp, by simp only; omega, by simp, by simp, Sl.nil _ _ _, hG3, hK2.tr1 hK3 (by omega), by simp⟩ (fun s e w4 hJ => ?_)
    obtain ⟨p, outs, a2, c2⟩ := s
    obtain ⟨hp1, hpn, hol, hch, hS, hG, hk4, hfr⟩ := hJ
    simp only at hp1 hpn hol hch hS hG hk4 hfr ⊢
    refine k_seq ?_
    refine k_seq ?_
    refine k_region ?_
    refine m_int rfl rfl ?_
    refine m_sl rfl rfl ?_
    refine o_lens Tryd.underlying22 rfl ?_
    refine b_lss rfl rfl ?_
    refine o_nil ?_
    refine k_cond rfl (fun h => ?_) (fun h => ?_)
    rotate_left
    ·
      have hc1 : chain ws 1 = some outs := by
       rw [hch, chain_end ws p (by omega)]; simp
      have hbb := blocks_b ws outs (by omega) hz hc1
      refine k_exit rfl ?_
      refine k_seq ?_
      refine k_seq ?_
      refine k_region ?_
      refine m_int rfl rfl ?_
      refine o_nil ?_
      refine k_block ?_
      refine k_loop (σ := Nat) (fun i => [(0, .slice (some ⟨b1, o1, none⟩) n c), (4, .slice a2 outs.length c2), (5, .slice (some ⟨g, 0, none⟩) n n), (12, .int .i64 (i : Int))]) (fun i w' => i ≤ outs.length ∧ (∀ j b, j < i → outs[j]? = some b → refOk ws outs b) ∧ Keep [] w4 w') (fun i => outs.length - i) 0 ⟨rfl, rfl, rfl, rfl, trivial⟩ ⟨by omega, by intro j b hj; omega, Keep.refl _ _⟩ (fun i e w5 hJ => ?_)
      obtain ⟨hi, hpre, hk5⟩ := hJ
      refine k_seq ?_
      refine k_seq ?_
      refine k_region ?_
      refine m_int rfl rfl ?_
      refine m_sl rfl rfl ?_
      refine o_lens Tryd.underlying23 rfl ?_
      refine b_lss rfl rfl ?_
      refine o_nil ?_
      refine k_cond rfl (fun h => ?_) (fun h => ?_)
      rotate_left
      ·
        refine k_exit rfl ?_
        refine k_seq ?_
        refine k_region ?_
        refine m_sl rfl rfl ?_
        refine m_sl rfl rfl ?_
        refine m_int rfl rfl ?_
        refine o_nil ?_
        refine k_ret (ret_tmps (ts := [2, 3]) (v := .tuple #[.slice _ _ _, .int _ _]) rfl rfl ?_)
        refine blk_some (L := outs) ?_ ⟨a2, c2, rfl, hS.new hk5, hk4.tr hk5, hfr⟩
        rw [hbb, if_pos]
        intro b hb
        obtain ⟨j, hj, rfl⟩ := List.getElem_of_mem hb
        exact hpre j _ (by omega) (List.getElem?_eq_getElem hj)
      have hio : i < outs.length := by omega
      obtain ⟨b2, o2, rfl, _⟩ := hS.rd.at i (by simpa using hio)
      refine k_skip ?_
      refine k_seq ?_
      refine k_block ?_
      refine k_seq ?_
      refine k_region ?_
      refine m_sl rfl rfl ?_
      refine m_sl rfl rfl ?_
      refine m_int rfl rfl ?_
      refine o_ixs1 Tryd.underlying23 rfl rfl rfl hio ?_
      refine o_ld rfl rfl (hS.rd.cellK hk5 (iv_at outs i hio)) ?_
      refine o_call rfl rfl (rrefs_ok w5 _ n c ws outs[i] (hW.new (hk4.tr hk5)) hn (by omega) hx) (fun v w6 hv => ?_)
      obtain ⟨a6, c6, rfl, hS6, hK6, hf6⟩ := hv
      have hlen := refs_len ws outs[i]
      have hrl := refs_lt ws outs[i]
      refine m_sl rfl rfl ?_
      refine o_nil ?_
      refine k_seq ?_
      refine k_region ?_
      refine m_int rfl rfl ?_
      refine o_nil ?_
      refine k_block ?_
      refine k_loop (σ := Nat) (fun k => [(0, .slice (some ⟨b1, o1, none⟩) n c), (4, .slice (some ⟨b2, o2, none⟩) outs.length c2), (5, .slice (some ⟨g, 0, none⟩) n n), (12, .int .i64 (i : Int)), (13, .slice a6 (refsW ws outs[i]).length c6), (14, .int .i64 (k : Int))]) (fun k w' => k ≤ (refsW ws outs[i]).length ∧ (∀ j b, j < k → (refsW ws outs[i])[j]? = some b → ws.getD b.toNat 0 ∈ (0 :: outs)) ∧ Keep [] w6 w') (fun k => (refsW ws outs[i]).length - k) 0 ⟨rfl, rfl, rfl, rfl, rfl, rfl, trivial⟩ ⟨by omega, by intro j b hj; omega, Keep.refl _ _⟩ (fun k e w7 hJ => ?_)
      obtain ⟨hk, hpr3, hk7⟩ := hJ
      refine k_seq ?_
      refine k_seq ?_
      refine k_region ?_
      refine m_int rfl rfl ?_
      refine m_sl rfl rfl ?_
      refine o_lens Tryd.underlying23 rfl ?_
      refine b_lss rfl rfl ?_
      refine o_nil ?_
      refine k_cond rfl (fun h => ?_) (fun h => ?_)
      rotate_left
      ·
        refine k_exit rfl ?_
        refine k_blk ?_
        refine k_region ?_
        refine m_int rfl rfl ?_
        refine n_add rfl rfl (by omega) ?_
        refine m_int rfl rfl ?_
        refine o_nil ?_
        refine k_goal ⟨i + 1, ⟨rfl, rfl, rfl, rfl, trivial⟩, ⟨by omega, ?_, hk5.tr (hK6.tr hk7)⟩, by omega⟩
        intro j b hj hb
        by_cases hji : j = i
        · subst hji
          rw [List.getElem?_eq_getElem hio] at hb
          obtain rfl := Option.some.inj hb
          intro q hq
          obtain ⟨t, ht, rfl⟩ := List.getElem_of_mem hq
          exact hpr3 t _ (by omega) (List.getElem?_eq_getElem ht)
        · exact hpre j b (by omega) hb
      have hkl : k < (refsW ws outs[i]).length := by omega
      have hkm := List.getElem_mem hkl
      have hrr := hrl _ hkm
      obtain ⟨ρ, hρ⟩ : ∃ ρ : Nat, (refsW ws outs[i])[k] = ρ := ⟨((refsW ws outs[i])[k]).toNat, by omega⟩
      have hρn : ρ < n := by omega
      have hρw : ρ < ws.length := by omega
      obtain ⟨b7, o7, rfl, _⟩ := hS6.rd.at k (by simpa using hkl)
      have hbad : ¬ (ws[ρ] ∈ 0 :: outs) → blocksW ws = none := by
       intro hno
       rw [hbb, if_neg]
       intro H
       have := H outs[i] (List.getElem_mem hio) _ hkm
       rw [hρ, Int.toNat_natCast, getD_at ws ρ hρw] at this
       exact hno this
      have hG7 := hG.keep (hk5.tr (hK6.tr hk7)) (by simp)
      have hrng := chain_rng ws outs hc1
      refine k_skip ?_
      refine k_seq ?_
      refine k_block ?_
      refine k_seq ?_
      refine k_region ?_
      refine m_sl rfl rfl ?_
      refine m_sl rfl rfl ?_
      refine m_int rfl rfl ?_
      refine o_ixs1 Tryd.underlying23 rfl rfl rfl hkl ?_
      refine o_ld rfl rfl (hS6.rd.cellK hk7 (iv_at _ k hkl)) ?_
      rw [hρ]
      refine o_ixs1 (m := ρ) Tryd.underlying22 rfl rfl rfl hρn ?_
      refine o_ld rfl rfl (hW.cellK (hk4.tr (hk5.tr (hK6.tr hk7))) (iv_at ws ρ hρw)) ?_
      refine m_int rfl rfl ?_
      refine o_nil ?_
      refine k_seq ?_
      refine k_region ?_
      refine m_int rfl rfl ?_
      refine b_lss rfl rfl ?_
      refine m_bool rfl rfl ?_
      refine o_split (t := 94) rfl (fun h => ?_) (fun h => ?_)
      ·
        refine g_no rfl rfl rfl ?_
        refine g_no rfl rfl rfl ?_
        refine g_no rfl rfl rfl ?_
        refine g_no rfl rfl rfl ?_
        refine pick_t rfl rfl ?_
        refine m_bool rfl rfl ?_
        refine g_no rfl rfl rfl ?_
        refine g_no rfl rfl rfl ?_
        refine g_no rfl rfl rfl ?_
        refine g_no rfl rfl rfl ?_
        refine g_no rfl rfl rfl ?_
        refine pick_t rfl rfl ?_
        refine o_nil ?_
        refine k_condt rfl ?_
        refine k_seq ?_
        refine k_region ?_
        refine m_sl rfl rfl ?_
        refine m_int rfl rfl ?_
        refine o_nil ?_
        refine k_ret (ret_tmps (ts := [2, 3]) (v := .tuple #[.slice _ _ _, .int _ _]) rfl rfl ?_)
        exact blk_none (hbad (fun H => by have := mem_rng (by omega) hrng H; omega)) (hk4.tr (hk5.tr (hK6.tr hk7)))
      ·
        refine g_yes rfl rfl ?_
        refine m_int rfl rfl ?_
        refine g_yes rfl rfl ?_
        refine m_sl rfl rfl ?_
        refine g_yes rfl rfl ?_
        refine o_lens Tryd.underlying22 rfl ?_
        refine g_yes rfl rfl ?_
        refine b_geq rfl rfl ?_
        refine pick_f rfl rfl ?_
        refine m_bool rfl rfl ?_
        refine o_split (t := 100) rfl (fun h => ?_) (fun h => ?_)
        ·
          refine g_no rfl rfl rfl ?_
          refine g_no rfl rfl rfl ?_
          refine g_no rfl rfl rfl ?_
          refine g_no rfl rfl rfl ?_
          refine g_no rfl rfl rfl ?_
          refine pick_t rfl rfl ?_
          refine o_nil ?_
          refine k_condt rfl ?_
          refine k_seq ?_
          refine k_region ?_
          refine m_sl rfl rfl ?_
          refine m_int rfl rfl ?_
          refine o_nil ?_
          refine k_ret (ret_tmps (ts := [2, 3]) (v := .tuple #[.slice _ _ _, .int _ _]) rfl rfl ?_)
          exact blk_none (hbad (fun H => by have := mem_rng (by omega) hrng H; omega)) (hk4.tr (hk5.tr (hK6.tr hk7)))
        ·
          obtain ⟨x, hxw⟩ : ∃ x : Nat, ws[ρ] = x := ⟨(ws[ρ]).toNat, by omega⟩
          have hxn : x < n := by omega
          rw [hxw]
          rw [hxw] at hbad
          obtain ⟨cs7, hB7, hs7, hc7⟩ := hG7
          refine g_yes rfl rfl ?_
          refine m_sl rfl rfl ?_
          refine g_yes rfl rfl ?_
          refine m_int rfl rfl ?_
          refine g_yes rfl rfl ?_
          refine o_ixs1 (m := x) Tryd.underlying63 rfl rfl rfl hxn ?_
          refine g_yes rfl rfl ?_
          refine o_ld rfl rfl (by rw [hB7.cell, Nat.zero_add]; exact hc7 x hxn) ?_
          refine g_yes rfl rfl ?_
          refine u_not rfl ?_
          refine pick_f rfl rfl ?_
          refine o_nil ?_
          refine k_cond rfl (fun h => ?_) (fun h => ?_)
          ·
            refine k_seq ?_
            refine k_region ?_
            refine m_sl rfl rfl ?_
            refine m_int rfl rfl ?_
            refine o_nil ?_
            refine k_ret (ret_tmps (ts := [2, 3]) (v := .tuple #[.slice _ _ _, .int _ _]) rfl rfl ?_)
            exact blk_none (hbad h) (hk4.tr (hk5.tr (hK6.tr hk7)))
          have hin : (x : Int) ∈ 0 :: outs := Decidable.of_not_not h
          refine k_skip ?_
          refine k_blk ?_
          refine k_region ?_
          refine m_int rfl rfl ?_
          refine n_add rfl rfl (by omega) ?_
          refine m_int rfl rfl ?_
          refine o_nil ?_
          refine k_goal ⟨k + 1, ⟨rfl, rfl, rfl, rfl, rfl, rfl, trivial⟩, ⟨by omega, ?_, hk7⟩, by omega⟩
          intro j b hj hb
          by_cases hji : j = k
          · subst hji
            rw [List.getElem?_eq_getElem hkl] at hb
            obtain rfl := Option.some.inj hb
            rw [hρ, Int.toNat_natCast, getD_at ws ρ hρw, hxw]
            exact hin
          · exact hpr3 j b (by omega) hb
    have hpl : p < n := by omega
    have hpw : p < ws.length := by omega
    refine k_skip ?_
    refine k_block ?_
    refine k_seq ?_
    refine k_region ?_
    refine m_sl rfl rfl ?_
    refine m_int rfl rfl ?_
    refine o_ixs1 Tryd.underlying22 rfl rfl rfl hpl ?_
    refine o_ld rfl rfl (hW.cellK hk4 (iv_at ws p hpw)) ?_
    refine o_call rfl rfl (ropen_ok w4 _ (hx _ (List.getElem_mem _))) (fun v w5 hv => ?_)
    obtain ⟨rfl, rfl⟩ := hv
    refine m_any rfl rfl ?_
    refine o_extr rfl rfl ?_
    refine o_extr rfl rfl ?_
    refine o_extr rfl rfl ?_
    refine o_extr rfl rfl ?_
    refine o_extr rfl rfl ?_
    refine m_int rfl rfl ?_
    refine m_int rfl rfl ?_
    refine m_int rfl rfl ?_
    refine m_int rfl rfl ?_
    refine m_int rfl rfl ?_
    refine o_nil ?_
    refine k_seq ?_
    refine k_seq ?_
    refine k_region ?_
    refine m_int rfl rfl ?_
    refine b_neq rfl rfl ?_
    refine m_bool rfl rfl ?_
    refine o_split (t := 47) rfl (fun h => ?_) (fun h => ?_)
    ·
      refine g_no rfl rfl rfl ?_
      refine g_no rfl rfl rfl ?_
      refine g_no rfl rfl rfl ?_
      refine g_no rfl rfl rfl ?_
      refine g_no rfl rfl rfl ?_
      refine g_no rfl rfl rfl ?_
      refine g_no rfl rfl rfl ?_
      refine pick_t rfl rfl ?_
      refine o_nil ?_
      refine k_condt rfl ?_
      refine k_seq ?_
      refine k_region ?_
      refine m_sl rfl rfl ?_
      refine m_int rfl rfl ?_
      refine o_nil ?_
      refine k_ret (ret_tmps (ts := [2, 3]) (v := .tuple #[.slice _ _ _, .int _ _]) rfl rfl ?_)
      refine blk_none (blocks_c ws (by omega) hz ?_) hk4
      rw [hch, chain_no ws p hpw (fun H => h H.1)]; rfl
    ·
      have he0 : (openW (ws[p])).2.2.2.2 = 0 := Decidable.of_not_not h
      have hF := open_f _ he0
      have hF0 := hF.n0
      have hF1 := hF.n1
      refine g_yes rfl rfl ?_
      refine m_int rfl rfl ?_
      refine g_yes rfl rfl ?_
      refine m_sl rfl rfl ?_
      refine g_yes rfl rfl ?_
      refine o_lens Tryd.underlying22 rfl ?_
      refine g_yes rfl rfl ?_
      refine m_int rfl rfl ?_
      refine g_yes rfl rfl ?_
      refine n_sub rfl rfl (by omega) ?_
      refine g_yes rfl rfl ?_
      refine n_sub rfl rfl (by omega) ?_
      refine g_yes rfl rfl ?_
      refine b_gtr rfl rfl ?_
      refine pick_f rfl rfl ?_
      refine o_nil ?_
      refine k_cond rfl (fun h => ?_) (fun h => ?_)
      ·
        refine k_seq ?_
        refine k_region ?_
        refine m_sl rfl rfl ?_
        refine m_int rfl rfl ?_
        refine o_nil ?_
        refine k_ret (ret_tmps (ts := [2, 3]) (v := .tuple #[.slice _ _ _, .int _ _]) rfl rfl ?_)
        refine blk_none (blocks_c ws (by omega) hz ?_) hk4
        rw [hch, chain_no ws p hpw (fun H => by have := H.2; omega)]; rfl
      refine k_skip ?_
      refine k_seq ?_
      refine k_region ?_
      refine m_sl rfl rfl ?_
      refine m_int rfl rfl ?_
      refine o_bsl (E := 3) (cs := #[.int .i64 (p : Int)]) rfl (fun _ => by kernel_rfl) (fun g6 w6 hB6 hK6 hb6 hZ6 => ?_)
      refine o_app Tryd.underlying23 inf3 rfl (by decide) rfl rfl (hS.new hK6) hB6.rd rfl (by intro u hu; simp at hu; subst hu; rfl) (by simp [maxLen]; omega) (by omega) (fun a7 c7 w7 hS7 hK7 hv7 => ?_)
      have hG7 := (hG.keep hK6 (by simp)).keep hK7 (sl_bg (hS.new hK6) (hG.keep hK6 (by simp)))
      have hoff := off_bg hS7 hG7
      obtain ⟨cs7, hB7, hs7, hc7⟩ := hG7
      refine m_sl rfl rfl ?_
      refine o_nil ?_
      refine k_seq ?_
      refine k_region ?_
      refine m_sl rfl rfl ?_
      refine m_int rfl rfl ?_
      refine o_ixs1 (m := p) Tryd.underlying63 rfl rfl rfl hpl ?_
      refine o_st (v := .bool true) rfl rfl rfl rfl hB7 (by omega) (fun w8 hB8 hK8 hZ8 => ?_)
      refine o_nil ?_
      refine k_region ?_
      refine m_int rfl rfl ?_
      refine n_add rfl rfl (by omega) ?_
      refine m_int rfl rfl ?_
      refine n_add rfl rfl (by omega) ?_
      refine m_int rfl rfl ?_
      refine o_nil ?_
      refine k_blk ?_
      have hcy := chain_yes ws p hpw ⟨he0, by omega⟩
      have hk7' := Keep.trb (hk4.tr hK6) hK7 hfr
      have hG8 : BG w8 g n (0 :: (outs ++ [(p : Int)])) := BG.set hs7 hc7 hB8
      refine k_goal ⟨(p + 1 + (openW (ws[p])).2.2.1.toNat, outs ++ [(p : Int)], a7, c7), ⟨rfl, ?_, rfl, ?_, trivial⟩, ⟨by simp only; omega, by simp only; omega, by simp only [List.length_append, List.length_singleton]; omega, ?_, ?_, hG8, hk7'.tr1 hK8 (by omega), fresh_app2 hfr (hk4.tr hK6) hv7⟩, by simp only; omega⟩
      · simp only [List.length_append]; rfl
      · show Value.int .i64 ((p : Int) + 1 + (openW (ws[p])).2.2.1) = _
        congr 1
        simp only
        omega
      · simp only
        rw [hch, hcy, Option.map_map]
        congr 1
        funext L
        simp
      · have := hS7.keep hK8 hoff
        simp only [List.length_append, List.map_append]
        exact this
end Go.Proofs.YtchbidckckmobaaDoor

/- Heads and blocks, plain: what was shown with the arena's laws; cells that are set. No condition beyond what each lemma names. -/
namespace Go.Proofs.YtchbidckckmobaaDoor
open Go.RowKit E
set_option linter.unusedVariables false
set_option linter.unusedSimpArgs false
set_option maxRecDepth 100000
attribute [local irreducible] ow qw kw kq cw opW Ret
theorem open_head (k c n m : Int) (h : hOk k c n m) : openW (k + 4 * c + 262144 * n + 16777216 * m) = (k, c, n, m, 0) := by
  have hy := head_yes h
  obtain ⟨h1, h2, h3, h4, h5, h6, h7, h8⟩ := h
  have hm : 0 ≤ m ∧ m < 4294967296 := by
    by_cases hk : k = 1
    · have := h8 hk
      have hp := ipow32 n.toNat (by omega)
      omega
    · have := h7 hk; omega
  have h9 : k = 1 → n ≤ 32 := fun hk => (h8 hk).1
  clear h8
  refine open_yes _ k c n m (by unfold pk; omega) (by unfold pc; omega) ?_ ?_ hy
  · unfold pn
    split <;> omega
  · unfold pm
    split <;> omega
theorem open_err (x : Int) (h : (openW x).2.2.2.2 ≠ 0) : openW x = (0, 0, 0, 0, 24) := by
  unfold openW at h ⊢
  split at h
  · simp at h
  · rename_i hh; rw [if_neg hh]
theorem open_back (x : Int) (h : (openW x).2.2.2.2 = 0) : headW (openW x).1 (openW x).2.1 (openW x).2.2.1 (openW x).2.2.2.1 = (x, 0) := by
  unfold openW at h ⊢
  split at h
  · rename_i hh; rw [if_pos hh]; exact hh
  · simp at h
theorem head_open (k c n m : Int) (h : (headW k c n m).2 = 0) : openW (headW k c n m).1 = (k, c, n, m, 0) := by
  by_cases hk : hOk k c n m
  · rw [head_yes hk]; exact open_head k c n m hk
  · rw [head_no hk] at h; simp at h
theorem open_rng (x : Int) (h : (openW x).2.2.2.2 = 0) : (-9223372036854775808 ≤ (openW x).2.1 ∧ (openW x).2.1 ≤ 9223372036854775807) := by
  unfold openW at h ⊢
  split at h
  · rename_i hh; rw [if_pos hh]; simp only; unfold pc; omega
  · simp at h
theorem ap_at (ws t : List Int) (p : Nat) (h : p < ws.length) (h' : p < (ws ++ t).length) : (ws ++ t)[p] = ws[p] := List.getElem_append_left h
theorem chain_app' (ws zs : List Int) (hd : Int) (hz : (openW hd).2.2.2.2 = 0) (hn : (openW hd).2.2.1 = zs.length) (d : Nat) : ∀ p, ws.length - p ≤ d → p ≤ ws.length → ∀ L, chain ws p = some L → chain (ws ++ hd :: zs) p = some (L ++ [(ws.length : Int)]) := by
  induction d with
  | zero =>
    intro p hp hpl L hL
    have hp' : p = ws.length := by omega
    subst hp'
    rw [chain_end ws _ (by omega)] at hL
    obtain rfl := Option.some.inj hL
    have hlt : ws.length < (ws ++ hd :: zs).length := by simp
    have e : (ws ++ hd :: zs)[ws.length] = hd := by simp
    rw [chain_yes _ _ hlt (by rw [e, hz, hn]; simp; omega), e, hn, chain_end _ _ (by simp; omega)]
    rfl
  | succ d ih =>
    intro p hp hpl L hL
    by_cases h : p < ws.length
    · have hlt : p < (ws ++ hd :: zs).length := by simp; omega
      by_cases hc : (openW (ws[p])).2.2.2.2 = 0 ∧ (openW (ws[p])).2.2.1 ≤ (ws.length : Int) - p - 1
      · rw [chain_yes ws p h hc] at hL
        obtain ⟨M, hM, rfl⟩ := Option.map_eq_some_iff.1 hL
        have h0 := (open_f _ hc.1).n0
        rw [chain_yes _ _ hlt (by rw [ap_at _ _ _ h]; refine ⟨hc.1, ?_⟩; have := hc.2; simp; omega), ap_at _ _ _ h, ih _ (by omega) (by omega) M hM]
        rfl
      · rw [chain_no ws p h hc] at hL
        simp at hL
    · have hp' : p = ws.length := by omega
      subst hp'
      rw [chain_end ws _ (by omega)] at hL
      obtain rfl := Option.some.inj hL
      have hlt : ws.length < (ws ++ hd :: zs).length := by simp
      have e : (ws ++ hd :: zs)[ws.length] = hd := by simp
      rw [chain_yes _ _ hlt (by rw [e, hz, hn]; simp; omega), e, hn, chain_end _ _ (by simp; omega)]
      rfl
/-- each place of the row of blocks is a block -/
theorem chain_ok' (ws : List Int) (d : Nat) : ∀ p, ws.length - p ≤ d → ∀ L, chain ws p = some L → ∀ x ∈ L, ∃ k : Nat, ∃ h : k < ws.length, x = k ∧ (openW (ws[k])).2.2.2.2 = 0 ∧ (openW (ws[k])).2.2.1 ≤ (ws.length : Int) - k - 1 := by
  induction d with
  | zero =>
    intro p hp L hL x hx
    rw [chain_end ws p (by omega)] at hL
    obtain rfl := Option.some.inj hL
    simp at hx
  | succ d ih =>
    intro p hp L hL x hx
    by_cases h : p < ws.length
    · by_cases hc : (openW (ws[p])).2.2.2.2 = 0 ∧ (openW (ws[p])).2.2.1 ≤ (ws.length : Int) - p - 1
      · rw [chain_yes ws p h hc] at hL
        obtain ⟨M, hM, rfl⟩ := Option.map_eq_some_iff.1 hL
        rcases List.mem_cons.1 hx with h' | h'
        · exact ⟨p, h, h', hc⟩
        · exact ih _ (by omega) M hM x h'
      · rw [chain_no ws p h hc] at hL
        simp at hL
    · rw [chain_end ws p h] at hL
      obtain rfl := Option.some.inj hL
      simp at hx
theorem refs_app (ws t : List Int) (k : Nat) (h : k < ws.length) (hc : (openW (ws[k])).2.2.2.2 = 0 ∧ (openW (ws[k])).2.2.1 ≤ (ws.length : Int) - k - 1) : refsW (ws ++ t) (k : Int) = refsW ws (k : Int) := by
  have hlt : k < (ws ++ t).length := by simp; omega
  rw [refsW_at _ k hlt, refsW_at _ k h, ap_at _ _ _ h]
  unfold refsO
  rw [if_pos hc, if_pos ⟨hc.1, by have := hc.2; simp; omega⟩]
theorem blocks_app (ws zs L : List Int) (hd : Int) (hz : (openW hd).2.2.2.2 = 0) (hn : (openW hd).2.2.1 = zs.length) (h0 : ∀ z ∈ zs, z = 0) (hb : blocksW ws = some L) : blocksW (ws ++ hd :: zs) = some (L ++ [(ws.length : Int)]) := by
  have hb' := hb
  unfold blocksW at hb'
  split at hb'
  · simp at hb'
  · rename_i hne
    have hl0 : 0 < ws.length := by omega
    have hw0 : ws[0] = 0 := by
      have := getD_at ws 0 hl0
      omega
    cases hc : chain ws 1 with
    | none => rw [hc] at hb'; simp at hb'
    | some M =>
      rw [hc] at hb'
      simp only at hb'
      split at hb'
      · rename_i hok
        obtain rfl := Option.some.inj hb'
        have hlt : 0 < (ws ++ hd :: zs).length := by simp; omega
        rw [blocks_b (ws ++ hd :: zs) (M ++ [(ws.length : Int)]) hlt (by rw [ap_at _ _ _ hl0]; exact hw0) (chain_app' ws zs hd hz hn _ 1 (Nat.le_refl _) (by omega) M hc), if_pos]
        intro b hbm
        rcases List.mem_append.1 hbm with h' | h'
        · obtain ⟨k, hk, rfl, hcc⟩ := chain_ok' ws _ 1 (Nat.le_refl _) M hc b h'
          have := hok _ h'
          unfold refOk at this ⊢
          rw [refs_app ws _ k hk hcc]
          intro r hr
          have hrr := refs_lt ws k r hr
          have h1 := this r hr
          have hr' : r.toNat < ws.length := by omega
          have hr2 : r.toNat < (ws ++ hd :: zs).length := by simp; omega
          rw [getD_at _ _ hr2, ap_at _ _ _ hr', ← getD_at _ _ hr']
          rcases List.mem_cons.1 h1 with h2 | h2
          · rw [h2]; simp
          · exact List.mem_cons_of_mem _ (List.mem_append_left _ h2)
        · have hbe : b = ws.length := by simpa using h'
          subst hbe
          intro r hr
          have hlt2 : ws.length < (ws ++ hd :: zs).length := by simp
          have hrr := refs_lt _ _ r hr
          rw [refsW_at _ _ hlt2] at hr
          unfold refsO at hr
          split at hr
          · have h3 := refU_lt _ _ _ _ r hr
            have hr2 : r.toNat < (ws ++ hd :: zs).length := by omega
            have h4 : (ws ++ hd :: zs)[r.toNat] ∈ zs := by
              rw [List.getElem_append_right (by omega), List.getElem_cons]
              rw [dif_neg (by omega)]
              exact List.getElem_mem _
            rw [getD_at _ _ hr2, h0 _ h4]
            simp
          · simp at hr
      · simp at hb'
theorem chain_step {ws : List Int} {p : Nat} {L : List Int} (h : chain ws p = some L) (hp : p < ws.length) : ∃ L', L = (p : Int) :: L' ∧ ((openW (ws[p])).2.2.2.2 = 0 ∧ (openW (ws[p])).2.2.1 ≤ (ws.length : Int) - p - 1) ∧ chain ws (p + 1 + (openW (ws[p])).2.2.1.toNat) = some L' := by
  by_cases hc : (openW (ws[p])).2.2.2.2 = 0 ∧ (openW (ws[p])).2.2.1 ≤ (ws.length : Int) - p - 1
  · rw [chain_yes ws p hp hc] at h
    cases h1 : chain ws (p + 1 + (openW (ws[p])).2.2.1.toNat) with
    | none => rw [h1] at h; cases h
    | some L' => rw [h1] at h; cases h; exact ⟨L', rfl, hc, rfl⟩
  · rw [chain_no ws p hp hc] at h; cases h
theorem chain_ge' (ws : List Int) (d : Nat) : ∀ p, ws.length - p ≤ d → ∀ L, chain ws p = some L → ∀ x ∈ L, (p : Int) ≤ x := by
  induction d with
  | zero =>
    intro p hd L h x hx
    rw [chain_end ws p (by omega)] at h
    cases h; cases hx
  | succ d ih =>
    intro p hd L h x hx
    by_cases hp : p < ws.length
    · obtain ⟨L', rfl, hc, h'⟩ := chain_step h hp
      rcases List.mem_cons.1 hx with rfl | hx
      · exact Int.le_refl _
      · have := ih _ (by omega) L' h' x hx; omega
    · rw [chain_end ws p hp] at h
      cases h; cases hx
theorem chain_ge {ws : List Int} {p : Nat} {L : List Int} (h : chain ws p = some L) : ∀ x ∈ L, (p : Int) ≤ x := chain_ge' ws _ p (Nat.le_refl _) L h
theorem chain_set' (ws : List Int) (q : Nat) (v : Int) (d : Nat) : ∀ p, ws.length - p ≤ d → ∀ L, chain ws p = some L → (q : Int) ∉ L → chain (ws.set q v) p = some L := by
  induction d with
  | zero =>
    intro p hd L h hq
    rw [chain_end ws p (by omega)] at h
    rw [chain_end _ p (by rw [List.length_set]; omega)]
    exact h
  | succ d ih =>
    intro p hd L h hq
    by_cases hp : p < ws.length
    · obtain ⟨L', rfl, hc, h'⟩ := chain_step h hp
      have hne : q ≠ p := fun e => hq (by rw [e]; simp)
      have hget : (ws.set q v)[p]'(by rw [List.length_set]; exact hp) = ws[p] := List.getElem_set_ne hne _
      rw [chain_yes (ws.set q v) p (by rw [List.length_set]; exact hp) (by rw [hget, List.length_set]; exact hc), hget, ih _ (by omega) L' h' (fun hm => hq (by simp [hm]))]
      rfl
    · rw [chain_end ws p hp] at h
      rw [chain_end _ p (by rw [List.length_set]; omega)]
      exact h
theorem chain_gap' (ws : List Int) (d : Nat) : ∀ p, ws.length - p ≤ d → ∀ L, chain ws p = some L → ∀ (b : Nat), (b : Int) ∈ L → ∀ q : Int, (b : Int) < q → q ≤ b + (openW (ws.getD b 0)).2.2.1 → q ∉ L := by
  induction d with
  | zero =>
    intro p hd L h b hb
    rw [chain_end ws p (by omega)] at h
    cases h; cases hb
  | succ d ih =>
    intro p hd L h b hb q h1 h2
    by_cases hp : p < ws.length
    · obtain ⟨L', rfl, hc, h'⟩ := chain_step h hp
      have hn := (open_f _ hc.1).n0
      rcases List.mem_cons.1 hb with hb | hb
      · have hbp : b = p := by omega
        subst hbp
        rw [List.getD_eq_getElem?_getD, List.getElem?_eq_getElem hp] at h2
        simp only [Option.getD_some] at h2
        intro hm
        rcases List.mem_cons.1 hm with hm | hm
        · omega
        · have := chain_ge h' q hm; omega
      · have hge := chain_ge h' _ hb
        intro hm
        rcases List.mem_cons.1 hm with hm | hm
        · omega
        · exact ih _ (by omega) L' h' b hb q h1 h2 hm
    · rw [chain_end ws p hp] at h
      cases h; cases hb
/-- a heap's words and the places of its blocks -/
structure WFH (ws L : List Int) : Prop where
  pos : 0 < ws.length
  ch : chain ws 1 = some L
  rng : ∀ x ∈ ws, -9223372036854775808 ≤ x ∧ x ≤ 9223372036854775807
  len : ws.length ≤ 65537
theorem WFH.at {ws L : List Int} (h : WFH ws L) {x : Int} (hx : x ∈ L) : ∃ k : Nat, ∃ hk : k < ws.length, x = k ∧ 1 ≤ k ∧ (openW (ws[k])).2.2.2.2 = 0 ∧ (openW (ws[k])).2.2.1 ≤ (ws.length : Int) - k - 1 := by
  obtain ⟨k, hk, h1, h2⟩ := chain_ok' ws _ 1 (Nat.le_refl _) L h.ch x hx
  have := chain_ge h.ch x hx
  exact ⟨k, hk, h1, by omega, h2⟩
theorem getD_get (ws : List Int) (k : Nat) (h : k < ws.length) : ws.getD k 0 = ws[k] := by rw [List.getD_eq_getElem?_getD, List.getElem?_eq_getElem h]; rfl
theorem WFH.set {ws L : List Int} (h : WFH ws L) {b : Nat} (hb : (b : Int) ∈ L) {q : Nat} (h1 : b < q) (h2 : (q : Int) ≤ b + (openW (ws.getD b 0)).2.2.1) {v : Int} (hv : -9223372036854775808 ≤ v ∧ v ≤ 9223372036854775807) : WFH (ws.set q v) L := by
  refine ⟨by rw [List.length_set]; exact h.pos, chain_set' ws q v _ 1 (Nat.le_refl _) L h.ch (chain_gap' ws _ 1 (Nat.le_refl _) L h.ch b hb q (by omega) h2), fun x hx => ?_, by rw [List.length_set]; exact h.len⟩
  rcases List.mem_or_eq_of_mem_set hx with hx | rfl
  · exact h.rng x hx
  · exact hv
theorem WFH.app {ws L : List Int} (h : WFH ws L) {hd : Int} {n : Nat} (hz : (openW hd).2.2.2.2 = 0) (hn : (openW hd).2.2.1 = n) (hr : -9223372036854775808 ≤ hd ∧ hd ≤ 9223372036854775807) (hl : ws.length + 1 + n ≤ 65537) : WFH (ws ++ hd :: List.replicate n 0) (L ++ [(ws.length : Int)]) := by
  refine ⟨by simp; omega, chain_app' ws (List.replicate n 0) hd hz (by simpa using hn) _ 1 (Nat.le_refl _) (by have := h.pos; omega) L h.ch, fun x hx => ?_, by simp; omega⟩
  rcases List.mem_append.1 hx with hx | hx
  · exact h.rng x hx
  · rcases List.mem_cons.1 hx with rfl | hx
    · exact hr
    · rw [List.eq_of_mem_replicate hx]; decide
theorem WFH.one : WFH [0] [] := ⟨by decide, by rw [chain_end _ _ (by decide)], by decide, by decide⟩
end Go.Proofs.YtchbidckckmobaaDoor

/- The heap in memory; New, Used, lay. No condition beyond what each contract names. -/
namespace Go.Proofs.YtchbidckckmobaaDoor
open Go.RowKit E
set_option linter.unusedVariables false
set_option linter.unusedSimpArgs false
set_option maxRecDepth 100000
attribute [local irreducible] ow qw kw kq cw opW Ret
theorem inf2 : infB Tryd.prog 2 1 8 (.int .i64 0) := ⟨_, rfl, rfl, rfl, rfl⟩
/-- a heap in memory, all of it k's own -/
def HP (k : Nat → Prop) (w : World) (hb : Nat) (ws : List Int) (lim : Int) (L : List Int) : Prop :=
  ∃ a c r m, Blk w hb #[.slice a ws.length c, iv lim, .map (some r)] 108 ∧ Sl w 2 1 a ws.length c (ws.map iv) ∧ Mp w r (Value.int .i64) m ∧ (∀ x : Int, getM m x = if x ∈ L then some (.bool true) else none) ∧ k hb ∧ k r ∧ ∀ z, a = some z → k z.block
theorem HP.new {k : Nat → Prop} {w w' : World} {hb : Nat} {ws : List Int} {lim : Int} {L : List Int} (h : HP k w hb ws lim L) (hK : Keep [] w w') : HP k w' hb ws lim L := by
  obtain ⟨a, c, r, m, h1, h2, h3, h4⟩ := h
  exact ⟨a, c, r, m, h1.keep hK (by simp), h2.new hK, h3.keep hK (by simp), h4⟩
/-- a heap is turned, and nothing else -/
def KeepH (k : Nat → Prop) (w w' : World) : Prop := ∃ S, Keep S w w' ∧ ∀ b ∈ S, k b ∧ (b < w.heap.size → (∃ cs T, (T = 2 ∨ T = 108 ∨ T = 68) ∧ Blk w b cs T) ∨ ∃ es ck, w.heap[b]? = some (.map es ck))
theorem E.Keep.h {k : Nat → Prop} {w w' : World} (h : Keep [] w w') : KeepH k w w' := ⟨[], h, by simp⟩
theorem E.Keep.hb {k : Nat → Prop} {b : Nat} {w w' : World} {cs : Array Value} {T : TypeId} (h : Keep [b] w w') (hB : Blk w b cs T) (hT : T = 2 ∨ T = 108 ∨ T = 68) (hk : k b) : KeepH k w w' :=
  ⟨[b], h, fun b' hb' => by simp at hb'; subst hb'; exact ⟨hk, fun _ => .inl ⟨cs, T, hT, hB⟩⟩⟩
theorem E.Keep.hs {k : Nat → Prop} {w w' : World} {a : Option Addr} {m c : Nat} {xs : List Value} (h : Keep (blkOf a) w w') (hS : Sl w 2 1 a m c xs) (hk : ∀ z, a = some z → k z.block) : KeepH k w w' := by
  refine ⟨_, h, fun b hb => ?_⟩
  rcases hS.2 with ⟨rfl, _⟩ | ⟨g, cur, rfl, hB, _⟩
  · simp [blkOf] at hb
  · simp [blkOf] at hb
    subst hb
    exact ⟨hk _ rfl, fun _ => .inl ⟨cur, 2, .inl rfl, hB⟩⟩
theorem E.Keep.hm {κ : Type} {k : Nat → Prop} {r : Nat} {w w' : World} {kv : κ → Value} {m : List (κ × Value)} (h : Keep [r] w w') (hM : Mp w r kv m) (hk : k r) : KeepH k w w' :=
  ⟨[r], h, fun b hb => by
    simp at hb; subst hb
    obtain ⟨es, ck, h1, _⟩ := hM.obj
    exact ⟨hk, fun _ => .inr ⟨es, ck, h1⟩⟩⟩
theorem KeepH.tr {k : Nat → Prop} {w w1 w2 : World} (h : KeepH k w w1) (h' : KeepH k w1 w2) : KeepH k w w2 := by
  obtain ⟨S, a1, a2⟩ := h
  obtain ⟨S', b1, b2⟩ := h'
  refine ⟨S ++ S', (a1.mono (by simp +contextual)).trans b1 (by simp +contextual), fun b hb => ?_⟩
  by_cases hS : b ∈ S
  · exact a2 b hS
  · have hb' : b ∈ S' := (List.mem_append.1 hb).resolve_left hS
    refine ⟨(b2 b hb').1, fun hl => ?_⟩
    have he := a1.block b hl hS
    have := (b2 b hb').2 (Nat.lt_of_lt_of_le hl a1.size)
    unfold Blk at this ⊢
    rw [he] at this
    exact this
theorem KeepH.size {k : Nat → Prop} {w w' : World} (h : KeepH k w w') : w.heap.size ≤ w'.heap.size := by obtain ⟨S, h1, _⟩ := h; exact h1.size
theorem KeepH.below {k : Nat → Prop} {w0 w w' : World} (h : KeepH k w w') (h0 : Keep [] w0 w) (hk : ∀ b, k b → w0.heap.size ≤ b) : Keep [] w0 w' := by
  obtain ⟨S, h1, h2⟩ := h
  exact h0.trans h1 (fun b hb hl => by have := hk b (h2 b hb).1; omega)
theorem KeepH.not {k : Nat → Prop} {w w' : World} {b : Nat} {cs : Array Value} {T : TypeId} {S : List Nat} (h2 : ∀ b ∈ S, k b ∧ (b < w.heap.size → (∃ cs T, (T = 2 ∨ T = 108 ∨ T = 68) ∧ Blk w b cs T) ∨ ∃ es ck, w.heap[b]? = some (.map es ck))) (hB : Blk w b cs T) (hT : ¬ (T = 2 ∨ T = 108 ∨ T = 68)) : b ∉ S := by
  intro hb
  rcases (h2 b hb).2 hB.lt with ⟨cs', T', hT', hB'⟩ | ⟨es, ck, hh⟩
  · rw [hB.ty hB'] at hT; exact hT hT'
  · unfold Blk at hB
    rw [hB] at hh; cases hh
theorem E.Blk.kh {k : Nat → Prop} {w w' : World} {b : Nat} {cs : Array Value} {T : TypeId} (hB : Blk w b cs T) (h : KeepH k w w') (hT : ¬ (T = 2 ∨ T = 108 ∨ T = 68)) : Blk w' b cs T := by
  obtain ⟨S, h1, h2⟩ := h
  exact hB.keep h1 (KeepH.not (w' := w') h2 hB hT)
theorem E.Sl.kh {k : Nat → Prop} {w w' : World} {E : TypeId} {sz m c : Nat} {a : Option Addr} {xs : List Value} (hS : Sl w E sz a m c xs) (h : KeepH k w w') (hT : ¬ (E = 2 ∨ E = 108 ∨ E = 68)) : Sl w' E sz a m c xs := by
  obtain ⟨S, h1, h2⟩ := h
  refine hS.keep h1 fun z hz hm => ?_
  rcases hS.2 with ⟨h0, _⟩ | ⟨g, cur, h0, hB, _⟩
  · rw [h0] at hz; cases hz
  · rw [h0] at hz; cases hz
    exact KeepH.not (w' := w') h2 hB hT hm
theorem E.Rd.kh {k : Nat → Prop} {w w' : World} {a : Option Addr} {xs : List Value} (hR : Rd w a xs) (h : KeepH k w w') (ha : xs ≠ [] → ∀ z, a = some z → ¬ k z.block) : Rd w' a xs := by
  obtain ⟨S, h1, h2⟩ := h
  exact hR.keepN h1 fun hn z hz hm => ha hn z hz (h2 _ hm).1
theorem hnew_ok (w : World) (lim : Int) : Ret Tryd.prog 28 [.int .i64 lim] w (fun v w' => Keep [] w w' ∧ if 0 ≤ lim ∧ lim ≤ 65536 then ∃ hb, v = .tuple #[.pointer (some ⟨hb, 0, none⟩), .int .i64 0] ∧ HP (fun b => w.heap.size ≤ b) w' hb [0] lim [] else v = .tuple #[.pointer none, .int .i64 1]) := by
  refine fn_enter (n := 15) Tryd.func28 rfl rfl (Nat.le_of_ble_eq_true rfl) (fun e => ?_)
  refine k_seq ?_
  refine k_region ?_
  refine m_ptr rfl rfl ?_
  refine m_int rfl rfl ?_
  refine o_nil ?_
  refine k_seq ?_
  refine k_seq ?_
  refine k_region ?_
  refine m_int rfl rfl ?_
  refine b_lss rfl rfl ?_
  refine m_bool rfl rfl ?_
  refine o_split (t := 6) rfl (fun h => ?_) (fun h => ?_)
  ·
    refine g_no rfl rfl rfl ?_
    refine g_no rfl rfl rfl ?_
    refine pick_t rfl rfl ?_
    refine o_nil ?_
    refine k_condt rfl ?_
    refine k_seq ?_
    refine k_region ?_
    refine m_ptr rfl rfl ?_
    refine m_int rfl rfl ?_
    refine o_nil ?_
    refine k_ret (ret_tmps (ts := [2, 3]) (v := .tuple #[.pointer _, .int _ _]) rfl rfl ?_)
    exact ⟨Keep.refl _ _, by rw [if_neg (by omega)]⟩
  ·
    have h6 := h
    refine g_yes rfl rfl ?_
    refine m_int rfl rfl ?_
    refine g_yes rfl rfl ?_
    refine b_gtr rfl rfl ?_
    refine pick_f rfl rfl ?_
    refine o_nil ?_
    refine k_cond rfl (fun h => ?_) (fun h => ?_)
    ·
      refine k_seq ?_
      refine k_region ?_
      refine m_ptr rfl rfl ?_
      refine m_int rfl rfl ?_
      refine o_nil ?_
      refine k_ret (ret_tmps (ts := [2, 3]) (v := .tuple #[.pointer _, .int _ _]) rfl rfl ?_)
      exact ⟨Keep.refl _ _, by rw [if_neg (by omega)]⟩
    refine k_skip ?_
    refine k_seq ?_
    refine k_region ?_
    refine o_bsl (E := 2) (cs := #[iv 0]) rfl (fun _ => by kernel_rfl) (fun g w1 hB1 hK1 hb1 hZ1 => ?_)
    refine m_int rfl rfl ?_
    refine o_mkmap (Value.int .i64) (fun r w2 hM2 hK2 hb2 hZ2 => ?_)
    refine o_build (v := .agg #[.slice (some ⟨g, 0, none⟩) 1 1, iv lim, .map (some r)]) rfl (fun _ => by kernel_rfl) ?_
    refine o_box rfl rfl (fun hb w3 hB3 hK3 hb3 hZ3 => ?_)
    refine m_ptr rfl rfl ?_
    refine m_int rfl rfl ?_
    refine o_nil ?_
    refine k_ret (ret_tmps (ts := [2, 3]) (v := .tuple #[.pointer _, .int _ _]) rfl rfl ?_)
    refine ⟨(hK1.tr hK2).tr hK3, ?_⟩
    rw [if_pos (by omega)]
    exact ⟨hb, rfl, some ⟨g, 0, none⟩, 1, r, [], hB3, ((hB1.keep hK2 (by simp)).keep hK3 (by simp)).sl (len := 1) (sz := 1) rfl (by decide), hM2.keep hK3 (by simp), fun x => by simp [getM_nil], by show w.heap.size ≤ hb; omega, by show w.heap.size ≤ r; omega, by intro z hz; cases hz; show w.heap.size ≤ g; omega⟩
theorem used_ok (k : Nat → Prop) (w : World) (hb : Nat) (ws : List Int) (lim : Int) (L : List Int) (h : HP k w hb ws lim L) (hl : ws.length ≤ 65537) :
    Ret Tryd.prog 33 [.pointer (some ⟨hb, 0, none⟩)] w (fun v w' => v = .int .i64 ((ws.length : Int) - 1) ∧ w' = w) := by
  obtain ⟨a, c, r, m, hB, hS, hM, hg, hk⟩ := h
  refine fn_enter (n := 11) Tryd.func33 rfl rfl (Nat.le_of_ble_eq_true rfl) (fun e => ?_)
  refine k_seq ?_
  refine k_region ?_
  refine m_int rfl rfl ?_
  refine o_nil ?_
  refine k_seq ?_
  refine k_seq ?_
  refine k_region ?_
  refine m_ptr rfl rfl ?_
  refine b_eqlp Tryd.underlying41 rfl rfl ?_
  refine o_nil ?_
  refine k_no rfl ((by intro h; cases h)) ?_
  refine k_skip ?_
  refine k_seq ?_
  refine k_region ?_
  refine m_ptr rfl rfl ?_
  refine o_nilc rfl ?_
  refine o_fld0 rfl rfl ?_
  refine o_ld (v := .slice a ws.length c) rfl rfl (hB.at rfl) ?_
  refine o_lens Tryd.underlying22 rfl ?_
  refine n_sub rfl rfl (by omega) ?_
  refine m_int rfl rfl ?_
  refine o_nil ?_
  refine k_ret (ret_tmps (ts := [2]) (v := .int _ _) rfl rfl ?_)
  exact ⟨rfl, rfl⟩
def layH (ws L : List Int) (lim kind cl n mask : Int) : Int × Int × List Int × List Int :=
  if n < 0 ∨ ¬ (0 ≤ cl ∧ cl ≤ 65535) then (0, 1, ws, L)
  else if lim - ((ws.length : Int) - 1) ≤ n then (0, 27, ws, L)
  else if (headW kind cl n mask).2 ≠ 0 then (0, (headW kind cl n mask).2, ws, L)
  else ((ws.length : Int), 0, ws ++ (headW kind cl n mask).1 :: List.replicate n.toNat 0, L ++ [(ws.length : Int)])
theorem head_rng (kind cl n mask : Int) : -9223372036854775808 ≤ (headW kind cl n mask).1 ∧ (headW kind cl n mask).1 ≤ 9223372036854775807 := by
  by_cases h : hOk kind cl n mask
  · rw [head_yes h]
    obtain ⟨h1, h2, h3, h4, h5, h6, h7, h8⟩ := h
    by_cases hk : kind = 1
    · obtain ⟨h9, h10, h11⟩ := h8 hk
      have hp := ipow32 n.toNat (by omega)
      simp only
      omega
    · have := h7 hk
      simp only
      omega
  · rw [head_no h]; decide
/-- what a call leaves of a heap -/
def HRes (k : Nat → Prop) (w : World) (hb : Nat) (lim : Int) (w' : World) (ws L : List Int) : Prop := HP k w' hb ws lim L ∧ WFH ws L ∧ (ws.length : Int) ≤ lim + 1 ∧ KeepH k w w'
theorem own_app {k : Nat → Prop} {w w' : World} {a a2 : Option Addr} (ha : ∀ z, a = some z → k z.block) (hk : ∀ b, w.heap.size ≤ b → k b) (hv : (a2 = a ∧ w'.heap.size = w.heap.size) ∨ (∃ g, a2 = some ⟨g, 0, none⟩ ∧ w.heap.size = g ∧ w'.heap.size = g + 1)) : ∀ z, a2 = some z → k z.block := by
  intro q hq
  rcases hv with ⟨h1, _⟩ | ⟨g5, h1, h2, _⟩
  · exact ha q (h1.symm.trans hq)
  · have : q = ⟨g5, 0, none⟩ := by rw [h1] at hq; simpa using hq.symm
    rw [this]; exact hk g5 (by omega)
theorem lay_ok (k : Nat → Prop) (w : World) (hb : Nat) (ws : List Int) (lim : Int) (L : List Int) (kind cl n mask : Int) (h : HP k w hb ws lim L) (hW : WFH ws L) (hlim : lim ≤ 65536) (hu : (ws.length : Int) ≤ lim + 1) (hkw : ∀ b, w.heap.size ≤ b → k b)
    (hcl : -9223372036854775808 ≤ cl ∧ cl ≤ 9223372036854775807) (hn : -9223372036854775808 ≤ n ∧ n ≤ 9223372036854775807) (hm : -9223372036854775808 ≤ mask ∧ mask ≤ 9223372036854775807) :
    Ret Tryd.prog 67 [.pointer (some ⟨hb, 0, none⟩), .int .i64 kind, .int .i64 cl, .int .i64 n, .int .i64 mask] w (fun v w' => v = .tuple #[.int .i64 (layH ws L lim kind cl n mask).1, .int .i64 (layH ws L lim kind cl n mask).2.1] ∧ HRes k w hb lim w' (layH ws L lim kind cl n mask).2.2.1 (layH ws L lim kind cl n mask).2.2.2) := by
  have hHP := h
  obtain ⟨a, c, r, m, hB, hS, hM, hg, hk1, hk2, hk3⟩ := h
  have hlen := hW.len
  refine fn_enter (n := 67) Tryd.func67 rfl rfl (Nat.le_of_ble_eq_true rfl) (fun e => ?_)
  refine k_seq ?_
  refine k_region ?_
  refine m_int rfl rfl ?_
  refine m_int rfl rfl ?_
  refine o_nil ?_
  refine k_seq ?_
  refine k_seq ?_
  refine k_region ?_
  refine m_ptr rfl rfl ?_
  refine b_eqlp Tryd.underlying41 rfl rfl ?_
  refine m_bool rfl rfl ?_
  refine o_false (t := 17) rfl ((by intro h; cases h)) ?_
  refine g_yes rfl rfl ?_
  refine m_int rfl rfl ?_
  refine g_yes rfl rfl ?_
  refine b_lss rfl rfl ?_
  refine pick_f rfl rfl ?_
  refine o_nil ?_
  refine k_cond rfl (fun h => ?_) (fun h => ?_)
  ·
    refine k_seq ?_
    refine k_region ?_
    refine m_int rfl rfl ?_
    refine m_int rfl rfl ?_
    refine o_nil ?_
    refine k_ret (ret_tmps (ts := [10, 11]) (v := .tuple #[.int _ _, .int _ _]) rfl rfl ?_)
    have e : layH ws L lim kind cl n mask = (0, 1, ws, L) := if_pos (.inl (by omega))
    rw [e]; exact ⟨rfl, hHP, hW, hu, (Keep.refl [] w).h⟩
  have hn0 : 0 ≤ n := by omega
  refine k_skip ?_
  refine k_seq ?_
  refine k_seq ?_
  refine k_region ?_
  refine m_int rfl rfl ?_
  refine cv64 rfl Tryd.underlying49 rfl ?_
  refine b_gtr rfl rfl ?_
  refine o_nil ?_
  refine k_cond (p := ¬ (0 ≤ cl ∧ cl ≤ 65535)) (congrArg Value.bool (decide_eq_decide.2 (by rw [ofZ]; omega))) (fun h => ?_) (fun h => ?_)
  ·
    refine k_seq ?_
    refine k_region ?_
    refine m_int rfl rfl ?_
    refine m_int rfl rfl ?_
    refine o_nil ?_
    refine k_ret (ret_tmps (ts := [10, 11]) (v := .tuple #[.int _ _, .int _ _]) rfl rfl ?_)
    have e : layH ws L lim kind cl n mask = (0, 1, ws, L) := if_pos (.inr h)
    rw [e]; exact ⟨rfl, hHP, hW, hu, (Keep.refl [] w).h⟩
  have hc0 : 0 ≤ cl ∧ cl ≤ 65535 := Decidable.of_not_not h
  refine k_skip ?_
  refine k_seq ?_
  refine k_seq ?_
  refine k_qk 8 rfl rfl rfl rfl rfl ?_
  refine q_step (fun w1 hC => m_int rfl rfl (o_nil ⟨rfl, hC⟩)) ?_
  refine q_step (fun w1 hC => m_ptr rfl rfl (o_nil ⟨rfl, hC⟩)) ?_
  refine q_step (fun w1 hC => o_nilc rfl (o_nil ⟨rfl, hC⟩)) ?_
  refine q_step (fun w1 hC => o_fld (off := 1) rfl rfl (o_nil ⟨rfl, hC⟩)) ?_
  refine q_step (fun w1 hC => o_ld (v := iv lim) rfl rfl (hB.kat hC rfl) (o_nil ⟨rfl, hC⟩)) ?_
  refine q_step (fun w1 hC => m_ptr rfl rfl (o_nil ⟨rfl, hC⟩)) ?_
  refine q_step (v := .int .i64 ((ws.length : Int) - 1)) (fun w1 hC => o_call rfl rfl (used_ok k w1 hb ws lim L (hHP.new hC) hlen) (fun v w2 hv => by obtain ⟨rfl, rfl⟩ := hv; exact o_nil ⟨rfl, hC⟩)) ?_
  refine q_step (fun w1 hC => n_sub rfl rfl (by omega) (o_nil ⟨rfl, hC⟩)) ?_
  refine q_nil ?_
  intro w1 hC1
  have hHP1 := hHP.new hC1
  refine b_geq rfl rfl ?_
  refine o_nil ?_
  refine k_cond rfl (fun h => ?_) (fun h => ?_)
  ·
    refine k_seq ?_
    refine k_region ?_
    refine m_int rfl rfl ?_
    refine m_int rfl rfl ?_
    refine o_nil ?_
    refine k_ret (ret_tmps (ts := [10, 11]) (v := .tuple #[.int _ _, .int _ _]) rfl rfl ?_)
    have e : layH ws L lim kind cl n mask = (0, 27, ws, L) := by unfold layH; rw [if_neg (by omega), if_pos (by omega)]
    rw [e]; exact ⟨rfl, hHP1, hW, hu, hC1.h⟩
  have hroom : ¬ lim - ((ws.length : Int) - 1) ≤ n := by omega
  refine k_skip ?_
  refine k_seq ?_
  refine k_region ?_
  refine m_int rfl rfl ?_
  refine m_int rfl rfl ?_
  refine m_int rfl rfl ?_
  refine m_int rfl rfl ?_
  refine o_call rfl rfl (head_ok w1 kind cl n mask hcl hn hm) (fun v w2 hv => ?_)
  obtain ⟨rfl, rfl⟩ := hv
  refine m_any rfl rfl ?_
  refine o_extr rfl rfl ?_
  refine o_extr rfl rfl ?_
  refine m_int rfl rfl ?_
  refine m_int rfl rfl ?_
  refine o_nil ?_
  refine k_seq ?_
  refine k_seq ?_
  refine k_region ?_
  refine m_int rfl rfl ?_
  refine b_neq rfl rfl ?_
  refine o_nil ?_
  refine k_cond rfl (fun h => ?_) (fun h => ?_)
  ·
    refine k_seq ?_
    refine k_region ?_
    refine m_int rfl rfl ?_
    refine m_int rfl rfl ?_
    refine m_int rfl rfl ?_
    refine o_nil ?_
    refine k_ret (ret_tmps (ts := [10, 11]) (v := .tuple #[.int _ _, .int _ _]) rfl rfl ?_)
    have e : layH ws L lim kind cl n mask = (0, (headW kind cl n mask).2, ws, L) := by unfold layH; rw [if_neg (by omega), if_neg hroom, if_pos h]
    rw [e]; exact ⟨rfl, hHP1, hW, hu, hC1.h⟩
  have he0 : (headW kind cl n mask).2 = 0 := Decidable.of_not_not h
  have hoh := head_open kind cl n mask he0
  have e : layH ws L lim kind cl n mask = ((ws.length : Int), 0, ws ++ (headW kind cl n mask).1 :: List.replicate n.toNat 0, L ++ [(ws.length : Int)]) := by unfold layH; rw [if_neg (by omega), if_neg hroom, if_neg h]
  obtain ⟨hd, hhd⟩ : ∃ hd, (headW kind cl n mask).1 = hd := ⟨_, rfl⟩
  have hdr := head_rng kind cl n mask
  rw [hhd] at e hoh hdr
  rw [hhd]
  have hB1 := hB.keep hC1 (by simp)
  have hS1 := hS.new hC1
  have hM1 := hM.keep hC1 (by simp)
  have hnn : (n.toNat : Int) = n := by omega
  refine k_skip ?_
  refine k_seq ?_
  refine k_region ?_
  refine m_ptr rfl rfl ?_
  refine o_nilc rfl ?_
  refine o_fld0 rfl rfl ?_
  refine o_ld (v := .slice a ws.length c) rfl rfl (hB1.at rfl) ?_
  refine o_lens Tryd.underlying22 rfl ?_
  refine m_int rfl rfl ?_
  refine o_nil ?_
  refine k_seq ?_
  refine k_region ?_
  refine m_ptr rfl rfl ?_
  refine m_ptr rfl rfl ?_
  refine o_nilc rfl ?_
  refine o_fld0 rfl rfl ?_
  refine o_ld (v := .slice a ws.length c) rfl rfl (hB1.at rfl) ?_
  refine m_int rfl rfl ?_
  refine o_bsl (E := 2) (cs := #[iv hd]) rfl (fun _ => by kernel_rfl) (fun g3 w3 hB3 hK3 hb3 hZ3 => ?_)
  refine o_app Tryd.underlying22 inf2 rfl (by decide) rfl rfl (hS1.new hK3) hB3.rd rfl (by simp [iv, Value.oneCell']) (by simp [maxLen]; omega) (by omega) (fun a4 c4 w4 hS4 hK4 hv4 => ?_)
  have hf4 := own_app (k := k) (w := w3) (w' := w4) (a := a) (a2 := a4) hk3 (fun b hb => hkw b (by have := hC1.size; have := hK3.size; omega)) hv4
  obtain ⟨g4, cur4, ha4, hB4, hs4⟩ := hS4.blk (by omega)
  subst ha4
  have hS13 := hS1.new hK3
  have hH4 : KeepH k w2 w4 := hK3.h.tr (hK4.hs hS13 hk3)
  have hBh4 : Blk w4 hb #[.slice a ws.length c, iv lim, .map (some r)] 108 := (hB1.keep hK3 (by simp)).keep hK4 (hS13.notin (hB1.keep hK3 (by simp)) (by decide))
  have hMp4 : Mp w4 r (Value.int .i64) m := (hM1.keep hK3 (by simp)).keep hK4 (sl_mp hS13 (hM1.keep hK3 (by simp)))
  refine m_int rfl rfl ?_
  refine o_ext (k := n.toNat) Tryd.underlying22 Tryd.underlying3 inf2 rfl rfl rfl (congrArg (Value.int .i64) hnn.symm) hS4 (by simp [maxLen]; omega) (by omega) (fun a5 c5 w5 hS5 hK5 hv5 => ?_)
  have hf5 := own_app (k := k) (w := w4) (w' := w5) (a := some ⟨g4, 0, none⟩) (a2 := a5) hf4 (fun b hb => hkw b (by have := hH4.size; have := hC1.size; omega)) hv5
  have hH5 : KeepH k w2 w5 := hH4.tr (Keep.hb hK5 hB4 (.inl rfl) (hf4 _ rfl))
  have hBh5 : Blk w5 hb #[.slice a ws.length c, iv lim, .map (some r)] 108 := hBh4.keep hK5 (hS4.notin hBh4 (by decide))
  have hMp5 : Mp w5 r (Value.int .i64) m := hMp4.keep hK5 (sl_mp hS4 hMp4)
  have hcells : ws.map iv ++ [iv hd] ++ List.replicate n.toNat (Value.int .i64 0) = (ws ++ hd :: List.replicate n.toNat 0).map iv := by simp [iv]
  have hlw : (ws ++ hd :: List.replicate n.toNat 0).length = ws.length + 1 + n.toNat := by simp; omega
  refine o_nilc rfl ?_
  refine o_fld0 rfl rfl ?_
  refine o_st (v := .slice a5 (ws.length + 1 + n.toNat) c5) rfl rfl rfl rfl hBh5 (show 0 < 3 by decide) (fun w6 hB6 hK6 hZ6 => ?_)
  have hB6' : Blk w6 hb #[.slice a5 (ws.length + 1 + n.toNat) c5, iv lim, .map (some r)] 108 := hB6
  have hMp6 : Mp w6 r (Value.int .i64) m := hMp5.keep hK6 (by intro hm; simp at hm; subst hm; exact hMp5.blk hBh5 rfl)
  have hS6 : Sl w6 2 1 a5 (ws.length + 1 + n.toNat) c5 (ws.map iv ++ [iv hd] ++ List.replicate n.toNat (Value.int .i64 0)) := hS5.keep hK6 (hS5.off hBh5 (by decide))
  have hH6 : KeepH k w2 w6 := hH5.tr (Keep.hb hK6 hBh5 (.inr (.inl rfl)) hk1)
  refine o_nil ?_
  refine k_seq ?_
  refine k_region ?_
  refine m_ptr rfl rfl ?_
  refine o_nilc rfl ?_
  refine o_fld (off := 2) rfl rfl ?_
  refine o_ld (v := .map (some r)) rfl rfl (hB6'.at rfl) ?_
  refine m_int rfl rfl ?_
  refine o_mput (kv := Value.int .i64) (q := (ws.length : Int)) (v := .bool true) Tryd.underlying104 (key_int Tryd.underlying2) rfl rfl rfl hMp6 (.inl rfl) (fun w7 hM7 hK7 hZ7 => ?_)
  have hB7 : Blk w7 hb #[.slice a5 (ws.length + 1 + n.toNat) c5, iv lim, .map (some r)] 108 := hB6'.keep hK7 (by intro hm; simp at hm; subst hm; exact hMp6.blk hB6' rfl)
  have hS7 := hS6.keep hK7 (fun z hz hm => by simp at hm; exact sl_mp hS6 hMp6 (by rw [← hm]; cases a5 with | none => cases hz | some y => cases hz; simp [blkOf]))
  have hH7 : KeepH k w w7 := hC1.h.tr (hH6.tr (Keep.hm hK7 hMp6 hk2))
  refine o_nil ?_
  refine k_seq ?_
  refine k_region ?_
  refine m_int rfl rfl ?_
  refine m_int rfl rfl ?_
  refine m_int rfl rfl ?_
  refine o_nil ?_
  refine k_ret (ret_tmps (ts := [10, 11]) (v := .tuple #[.int _ _, .int _ _]) rfl rfl ?_)
  rw [e]
  refine ⟨rfl, ⟨a5, c5, r, _, ?_, ?_, hM7, fun x => ?_, hk1, hk2, hf5⟩, hW.app (by rw [hoh]) (by rw [hoh]; exact hnn.symm) hdr (by omega), by rw [hlw]; omega, hH7⟩
  · rw [hlw]; exact hB7
  · rw [hlw, ← hcells]; exact hS7
  · rw [getM_put, hg x]
    by_cases hx : x = (ws.length : Int)
    · rw [if_pos hx, if_pos (by simp [hx])]
    · rw [if_neg hx]; simp [hx]
end Go.Proofs.YtchbidckckmobaaDoor

/- The heap's Array, Look, cell, Get, Set. No condition beyond what each contract names. -/
namespace Go.Proofs.YtchbidckckmobaaDoor
open Go.RowKit E
set_option linter.unusedVariables false
set_option linter.unusedSimpArgs false
set_option maxRecDepth 100000
attribute [local irreducible] ow qw kw kq cw opW Ret
theorem harray_ok (k : Nat → Prop) (w : World) (hb : Nat) (ws : List Int) (lim : Int) (L : List Int) (cl n : Int) (rf : Bool) (h : HP k w hb ws lim L) (hW : WFH ws L) (hlim : lim ≤ 65536) (hu : (ws.length : Int) ≤ lim + 1) (hkw : ∀ b, w.heap.size ≤ b → k b)
    (hcl : -9223372036854775808 ≤ cl ∧ cl ≤ 9223372036854775807) (hn : -9223372036854775808 ≤ n ∧ n ≤ 9223372036854775807) :
    Ret Tryd.prog 29 [.pointer (some ⟨hb, 0, none⟩), .int .i64 cl, .bool rf, .int .i64 n] w (fun v w' => v = .tuple #[.int .i64 (layH ws L lim (if rf then 3 else 2) cl n 0).1, .int .i64 (layH ws L lim (if rf then 3 else 2) cl n 0).2.1] ∧ HRes k w hb lim w' (layH ws L lim (if rf then 3 else 2) cl n 0).2.2.1 (layH ws L lim (if rf then 3 else 2) cl n 0).2.2.2) := by
  refine fn_enter (n := 23) Tryd.func29 rfl rfl (Nat.le_of_ble_eq_true rfl) (fun e => ?_)
  refine k_seq ?_
  refine k_region ?_
  refine m_int rfl rfl ?_
  refine m_int rfl rfl ?_
  refine o_nil ?_
  refine k_seq ?_
  refine k_seq ?_
  refine k_region ?_
  refine m_bool rfl rfl ?_
  refine o_nil ?_
  refine k_condb rfl (fun h => ?_) (fun h => ?_)
  ·
    subst h
    refine k_seq ?_
    refine k_region ?_
    refine m_ptr rfl rfl ?_
    refine m_int rfl rfl ?_
    refine m_int rfl rfl ?_
    refine o_call rfl rfl (lay_ok k w hb ws lim L 3 cl n 0 h hW hlim hu hkw hcl hn (by omega)) (fun v w1 hv => ?_)
    obtain ⟨rfl, hr⟩ := hv
    refine o_extr rfl rfl ?_
    refine o_extr rfl rfl ?_
    refine m_int rfl rfl ?_
    refine m_int rfl rfl ?_
    refine o_nil ?_
    refine k_ret (ret_tmps (ts := [8, 9]) (v := .tuple #[.int _ _, .int _ _]) rfl rfl ?_)
    exact ⟨rfl, hr⟩
  subst h
  refine k_skip ?_
  refine k_seq ?_
  refine k_region ?_
  refine m_ptr rfl rfl ?_
  refine m_int rfl rfl ?_
  refine m_int rfl rfl ?_
  refine o_call rfl rfl (lay_ok k w hb ws lim L 2 cl n 0 h hW hlim hu hkw hcl hn (by omega)) (fun v w1 hv => ?_)
  obtain ⟨rfl, hr⟩ := hv
  refine o_extr rfl rfl ?_
  refine o_extr rfl rfl ?_
  refine m_int rfl rfl ?_
  refine m_int rfl rfl ?_
  refine o_nil ?_
  refine k_ret (ret_tmps (ts := [8, 9]) (v := .tuple #[.int _ _, .int _ _]) rfl rfl ?_)
  exact ⟨rfl, hr⟩
def lookH (ws L : List Int) (p : Int) : Int × Int × Int × Int :=
  if p ∈ L then ((openW (ws.getD p.toNat 0)).1, (openW (ws.getD p.toNat 0)).2.1, (openW (ws.getD p.toNat 0)).2.2.1, (openW (ws.getD p.toNat 0)).2.2.2.2) else (0, 0, 0, 21)
theorem look_in {ws L : List Int} {p : Int} (h : p ∈ L) : lookH ws L p = ((openW (ws.getD p.toNat 0)).1, (openW (ws.getD p.toNat 0)).2.1, (openW (ws.getD p.toNat 0)).2.2.1, (openW (ws.getD p.toNat 0)).2.2.2.2) := if_pos h
theorem look_out {ws L : List Int} {p : Int} (h : p ∉ L) : lookH ws L p = (0, 0, 0, 21) := if_neg h
theorem look_ok (k : Nat → Prop) (w : World) (hb : Nat) (ws : List Int) (lim : Int) (L : List Int) (p : Int) (h : HP k w hb ws lim L) (hW : WFH ws L) :
    Ret Tryd.prog 31 [.pointer (some ⟨hb, 0, none⟩), .int .i64 p] w (fun v w' => v = .tuple #[.int .i64 (lookH ws L p).1, .int .i64 (lookH ws L p).2.1, .int .i64 (lookH ws L p).2.2.1, .int .i64 (lookH ws L p).2.2.2] ∧ w' = w) := by
  obtain ⟨a, c, r, m, hB, hS, hM, hg, hk⟩ := h
  refine fn_enter (n := 35) Tryd.func31 rfl rfl (Nat.le_of_ble_eq_true rfl) (fun e => ?_)
  refine k_seq ?_
  refine k_region ?_
  refine m_int rfl rfl ?_
  refine m_int rfl rfl ?_
  refine m_int rfl rfl ?_
  refine m_int rfl rfl ?_
  refine o_nil ?_
  refine k_seq ?_
  refine k_seq ?_
  refine k_region ?_
  refine m_ptr rfl rfl ?_
  refine b_eqlp Tryd.underlying41 rfl rfl ?_
  refine o_nil ?_
  refine k_no rfl ((by intro h; cases h)) ?_
  refine k_skip ?_
  refine k_seq ?_
  refine k_seq ?_
  refine k_region ?_
  refine m_ptr rfl rfl ?_
  refine o_nilc rfl ?_
  refine o_fld (off := 2) rfl rfl ?_
  refine o_ld (v := .map (some r)) rfl rfl (hB.at rfl) ?_
  refine m_int rfl rfl ?_
  refine o_look (kv := Value.int .i64) (q := p) (v := .bool (decide (p ∈ L))) Tryd.underlying104 (key_int Tryd.underlying2) inf4 rfl rfl hM (by rw [hg p]; by_cases hp : p ∈ L <;> simp [hp]) ?_
  refine u_not rfl ?_
  refine o_nil ?_
  refine k_cond rfl (fun h => ?_) (fun h => ?_)
  ·
    refine k_seq ?_
    refine k_region ?_
    refine m_int rfl rfl ?_
    refine m_int rfl rfl ?_
    refine m_int rfl rfl ?_
    refine m_int rfl rfl ?_
    refine o_nil ?_
    refine k_ret (ret_tmps (ts := [4, 5, 6, 7]) (v := .tuple #[.int _ _, .int _ _, .int _ _, .int _ _]) rfl rfl ?_)
    rw [look_out h]; exact ⟨rfl, rfl⟩
  have hp : p ∈ L := Decidable.of_not_not h
  obtain ⟨q, hq, hpq, hq1, hq0, hqn⟩ := hW.at hp
  subst hpq
  have hgd : ws.getD (q : Int).toNat 0 = ws[q] := getD_get ws q hq
  have hx := iv_at ws q hq
  have hRS := hS.rd
  obtain ⟨b1, o1, hae, hc1⟩ := hRS _ _ hx
  subst hae
  refine k_skip ?_
  refine k_seq ?_
  refine k_region ?_
  refine m_ptr rfl rfl ?_
  refine o_nilc rfl ?_
  refine o_fld0 rfl rfl ?_
  refine o_ld (v := .slice (some ⟨b1, o1, none⟩) ws.length c) rfl rfl (hB.at rfl) ?_
  refine m_int rfl rfl ?_
  refine o_ixs1 (m := q) Tryd.underlying22 rfl rfl rfl hq ?_
  refine o_ld (v := iv (ws[q])) rfl rfl hc1 ?_
  refine o_call rfl rfl (open_ok w (ws[q])) (fun v w1 hv => ?_)
  obtain ⟨rfl, rfl⟩ := hv
  refine m_any rfl rfl ?_
  refine o_extr rfl rfl ?_
  refine o_extr rfl rfl ?_
  refine o_extr rfl rfl ?_
  refine o_extr rfl rfl ?_
  refine o_extr rfl rfl ?_
  refine m_int rfl rfl ?_
  refine m_int rfl rfl ?_
  refine m_int rfl rfl ?_
  refine m_int rfl rfl ?_
  refine o_nil ?_
  refine k_seq ?_
  refine k_region ?_
  refine m_int rfl rfl ?_
  refine m_int rfl rfl ?_
  refine m_int rfl rfl ?_
  refine m_int rfl rfl ?_
  refine m_int rfl rfl ?_
  refine m_int rfl rfl ?_
  refine m_int rfl rfl ?_
  refine m_int rfl rfl ?_
  refine o_nil ?_
  refine k_ret (ret_tmps (ts := [4, 5, 6, 7]) (v := .tuple #[.int _ _, .int _ _, .int _ _, .int _ _]) rfl rfl ?_)
  rw [look_in hp, hgd]; exact ⟨rfl, rfl⟩
def cellH (ws L : List Int) (p i : Int) : Int × Bool × Int :=
  if (lookH ws L p).2.2.2 ≠ 0 then (0, false, (lookH ws L p).2.2.2)
  else if i < 0 ∨ (lookH ws L p).2.2.1 ≤ i then (0, false, 1)
  else (p + 1 + i, refB (openW (ws.getD p.toNat 0)).1 (openW (ws.getD p.toNat 0)).2.2.2.1 i.toNat, 0)
theorem look_e {ws L : List Int} {p : Int} (hW : WFH ws L) : (lookH ws L p).2.2.2 = 0 ↔ p ∈ L := by
  by_cases hp : p ∈ L
  · rw [look_in hp]
    obtain ⟨q, hq, hpq, hq1, hq0, hqn⟩ := hW.at hp
    subst hpq
    rw [show ws.getD (q : Int).toNat 0 = ws[q] from getD_get ws q hq]
    exact ⟨fun _ => hp, fun _ => hq0⟩
  · rw [look_out hp]; simp [hp]
theorem cell_ok (k : Nat → Prop) (w : World) (hb : Nat) (ws : List Int) (lim : Int) (L : List Int) (p i : Int) (h : HP k w hb ws lim L) (hW : WFH ws L) :
    Ret Tryd.prog 68 [.pointer (some ⟨hb, 0, none⟩), .int .i64 p, .int .i64 i] w (fun v w' => v = .tuple #[.int .i64 (cellH ws L p i).1, .bool (cellH ws L p i).2.1, .int .i64 (cellH ws L p i).2.2] ∧ w' = w) := by
  have hHP := h
  obtain ⟨a, c, r, m, hB, hS, hM, hg, hk⟩ := h
  have hle := look_e (p := p) hW
  refine fn_enter (n := 72) Tryd.func68 rfl rfl (Nat.le_of_ble_eq_true rfl) (fun e => ?_)
  refine k_seq ?_
  refine k_region ?_
  refine m_int rfl rfl ?_
  refine m_bool rfl rfl ?_
  refine m_int rfl rfl ?_
  refine o_nil ?_
  refine k_seq ?_
  refine k_seq ?_
  refine k_region ?_
  refine m_ptr rfl rfl ?_
  refine m_int rfl rfl ?_
  refine o_call rfl rfl (look_ok k w hb ws lim L p hHP hW) (fun v w1 hv => ?_)
  obtain ⟨rfl, rfl⟩ := hv
  obtain ⟨nn, hnn⟩ : ∃ nn, (lookH ws L p).2.2.1 = nn := ⟨_, rfl⟩
  obtain ⟨ee, hee⟩ : ∃ ee, (lookH ws L p).2.2.2 = ee := ⟨_, rfl⟩
  rw [hnn, hee]
  rw [hee] at hle
  refine m_any rfl rfl ?_
  refine o_extr rfl rfl ?_
  refine o_extr rfl rfl ?_
  refine o_extr rfl rfl ?_
  refine o_extr rfl rfl ?_
  refine m_int rfl rfl ?_
  refine m_int rfl rfl ?_
  refine m_int rfl rfl ?_
  refine m_int rfl rfl ?_
  refine o_nil ?_
  refine k_seq ?_
  refine k_cut (σ := Unit) (fun s => [(0, .pointer (some ⟨hb, 0, none⟩)), (1, .int .i64 p), (2, .int .i64 i), (12, .int .i64 ee), (36, .bool (decide (ee ≠ 0 ∨ i < 0 ∨ nn ≤ i)))]) (fun s w' => w' = w1) ?_ (fun s e w' hJ => ?_)
  ·
    refine k_region ?_
    refine m_int rfl rfl ?_
    refine b_neq rfl rfl ?_
    refine m_bool rfl rfl ?_
    refine o_split (t := 28) rfl (fun h => ?_) (fun h => ?_)
    ·
      refine g_no rfl rfl rfl ?_
      refine g_no rfl rfl rfl ?_
      refine pick_t rfl rfl ?_
      refine m_bool rfl rfl ?_
      refine g_no rfl rfl rfl ?_
      refine g_no rfl rfl rfl ?_
      refine g_no rfl rfl rfl ?_
      refine pick_t rfl rfl ?_
      refine o_nil ?_
      refine k_goal ⟨(), ⟨rfl, rfl, rfl, rfl, congrArg Value.bool (decide_eq_true (.inl h)).symm, trivial⟩, rfl⟩
    ·
      have h28 := h
      refine g_yes rfl rfl ?_
      refine m_int rfl rfl ?_
      refine g_yes rfl rfl ?_
      refine b_lss rfl rfl ?_
      refine pick_f rfl rfl ?_
      refine m_bool rfl rfl ?_
      refine o_split (t := 32) rfl (fun h => ?_) (fun h => ?_)
      ·
        refine g_no rfl rfl rfl ?_
        refine g_no rfl rfl rfl ?_
        refine g_no rfl rfl rfl ?_
        refine pick_t rfl rfl ?_
        refine o_nil ?_
        refine k_goal ⟨(), ⟨rfl, rfl, rfl, rfl, congrArg Value.bool (decide_eq_true (.inr (.inl h))).symm, trivial⟩, rfl⟩
      ·
        have h32 := h
        refine g_yes rfl rfl ?_
        refine m_int rfl rfl ?_
        refine g_yes rfl rfl ?_
        refine m_int rfl rfl ?_
        refine g_yes rfl rfl ?_
        refine b_geq rfl rfl ?_
        refine pick_f rfl rfl ?_
        refine o_nil ?_
        refine k_goal ⟨(), ⟨rfl, rfl, rfl, rfl, congrArg Value.bool (decide_eq_decide.2 ⟨fun hh => .inr (.inr hh), fun hh => (hh.resolve_left h28).resolve_left h32⟩), trivial⟩, rfl⟩
  subst hJ
  refine k_cond rfl (fun h => ?_) (fun h => ?_)
  ·
    have h36 := h
    refine k_seq ?_
    refine k_seq ?_
    refine k_region ?_
    refine m_int rfl rfl ?_
    refine b_eql rfl rfl ?_
    refine o_nil ?_
    refine k_cut (σ := Unit) (fun s => [(12, .int .i64 (if ee = 0 then 1 else ee))]) (fun s w2 => w2 = w') ?_ (fun s e w2 hJ => ?_)
    ·
      refine k_cond rfl (fun h => ?_) (fun h => ?_)
      ·
        refine k_region ?_
        refine m_int rfl rfl ?_
        refine o_nil ?_
        refine k_goal ⟨(), ⟨by rw [if_pos h]; rfl, trivial⟩, rfl⟩
      refine k_skip ?_
      refine k_goal ⟨(), ⟨by rw [if_neg h]; rfl, trivial⟩, rfl⟩
    subst hJ
    refine k_seq ?_
    refine k_region ?_
    refine m_int rfl rfl ?_
    refine m_int rfl rfl ?_
    refine m_bool rfl rfl ?_
    refine m_int rfl rfl ?_
    refine o_nil ?_
    refine k_ret (ret_tmps (ts := [6, 7, 8]) (v := .tuple #[.int _ _, .bool _, .int _ _]) rfl rfl ?_)
    refine ⟨?_, rfl⟩
    unfold cellH
    rw [hee, hnn]
    by_cases he : ee = 0
    · rw [if_pos he, if_neg (by simpa using he), if_pos (h36.resolve_left (by simpa using he))]
    · rw [if_neg he, if_pos he]
  have he0 : ee = 0 := Decidable.byContradiction fun hh => h (.inl hh)
  have hi0 : 0 ≤ i ∧ i < nn := ⟨Int.not_lt.1 fun hh => h (.inr (.inl hh)), Int.not_le.1 fun hh => h (.inr (.inr hh))⟩
  have hp : p ∈ L := hle.1 he0
  obtain ⟨j, hj⟩ : ∃ j : Nat, i = (j : Int) := ⟨i.toNat, by omega⟩
  subst hj
  obtain ⟨q, hq, hpq, hq1, hq0, hqn⟩ := hW.at hp
  subst hpq
  have hgd : ws.getD (q : Int).toNat 0 = ws[q] := getD_get ws q hq
  have hx := iv_at ws q hq
  have hRS := hS.rd
  obtain ⟨b1, o1, hae, hc1⟩ := hRS _ _ hx
  subst hae
  have hF := open_f _ hq0
  have hnq : nn = (openW (ws[q])).2.2.1 := by rw [← hnn, look_in hp, hgd]
  have hlen := hW.len
  have hn1 := hF.n1
  have hcell : cellH ws L (q : Int) (j : Int) = ((q : Int) + 1 + (j : Int), refB (openW (ws[q])).1 (openW (ws[q])).2.2.2.1 j, 0) := by
   unfold cellH
   rw [hee, hnn, if_neg (by simpa using he0), if_neg (by omega), hgd]
   rfl
  refine k_skip ?_
  refine k_seq ?_
  refine k_region ?_
  refine m_ptr rfl rfl ?_
  refine o_nilc rfl ?_
  refine o_fld0 rfl rfl ?_
  refine o_ld (v := .slice (some ⟨b1, o1, none⟩) ws.length c) rfl rfl (hB.at rfl) ?_
  refine m_int rfl rfl ?_
  refine o_ixs1 (m := q) Tryd.underlying22 rfl rfl rfl hq ?_
  refine o_ld (v := iv (ws[q])) rfl rfl hc1 ?_
  refine o_call rfl rfl (open_ok w' (ws[q])) (fun v w3 hv => ?_)
  obtain ⟨rfl, rfl⟩ := hv
  refine m_any rfl rfl ?_
  refine o_extr rfl rfl ?_
  refine o_extr rfl rfl ?_
  refine o_extr rfl rfl ?_
  refine o_extr rfl rfl ?_
  refine o_extr rfl rfl ?_
  refine m_int rfl rfl ?_
  refine m_int rfl rfl ?_
  refine m_int rfl rfl ?_
  refine m_int rfl rfl ?_
  refine m_int rfl rfl ?_
  refine o_nil ?_
  refine k_seq ?_
  refine k_region ?_
  refine m_int rfl rfl ?_
  refine n_add rfl rfl (by omega) ?_
  refine m_int rfl rfl ?_
  refine n_add rfl rfl (by omega) ?_
  refine m_int rfl rfl ?_
  refine b_eql rfl rfl ?_
  refine m_bool rfl rfl ?_
  refine o_split (t := 60) rfl (fun h => ?_) (fun h => ?_)
  ·
    refine g_no rfl rfl rfl ?_
    refine g_no rfl rfl rfl ?_
    refine g_no rfl rfl rfl ?_
    refine g_un rfl rfl ?_
    refine g_un rfl rfl ?_
    refine g_un rfl rfl ?_
    refine g_un rfl rfl ?_
    refine g_un rfl rfl ?_
    refine g_un rfl rfl ?_
    refine g_no rfl rfl rfl ?_
    refine pick_t rfl rfl ?_
    refine m_int rfl rfl ?_
    refine m_bool rfl rfl ?_
    refine m_int rfl rfl ?_
    refine o_nil ?_
    refine k_ret (ret_tmps (ts := [6, 7, 8]) (v := .tuple #[.int _ _, .bool _, .int _ _]) rfl rfl ?_)
    rw [hcell]
    refine ⟨congrArg (fun x => Value.tuple #[.int .i64 ((q : Int) + 1 + (j : Int)), .bool x, .int .i64 0]) ?_, rfl⟩
    unfold refB
    exact (decide_eq_true (.inl h)).symm
  ·
    have h60 := h
    refine g_yes rfl rfl ?_
    refine m_int rfl rfl ?_
    refine g_yes rfl rfl ?_
    refine b_eql rfl rfl ?_
    refine g_yes rfl rfl ?_
    refine m_bool rfl rfl ?_
    refine o_split (t := 63) rfl (fun h => ?_) (fun h => ?_)
    ·
      have h63 := h
      have hk32 := hF.f h63
      refine g_yes rfl rfl ?_
      refine m_int rfl rfl ?_
      refine g_yes rfl rfl ?_
      refine m_int rfl rfl ?_
      refine g_yes rfl rfl ?_
      refine cv64 rfl Tryd.underlying49 rfl ?_
      refine g_yes rfl rfl ?_
      refine b_shrn rfl rfl ?_
      refine g_yes rfl rfl ?_
      refine b_and rfl rfl ?_
      rw [maskbit _ j (by omega)]
      refine g_yes rfl rfl ?_
      refine b_eql rfl rfl ?_
      refine g_yes rfl rfl ?_
      refine pick_t rfl rfl ?_
      refine pick_f rfl rfl ?_
      refine m_int rfl rfl ?_
      refine m_bool rfl rfl ?_
      refine m_int rfl rfl ?_
      refine o_nil ?_
      refine k_ret (ret_tmps (ts := [6, 7, 8]) (v := .tuple #[.int _ _, .bool _, .int _ _]) rfl rfl ?_)
      rw [hcell]
      refine ⟨congrArg (fun x => Value.tuple #[.int .i64 ((q : Int) + 1 + (j : Int)), .bool x, .int .i64 0]) ?_, rfl⟩
      unfold refB
      refine decide_eq_decide.2 ?_
      exact ⟨fun hh => .inr ⟨h63, hh⟩, fun hh => (hh.resolve_left h60).2⟩
    ·
      refine g_no rfl rfl rfl ?_
      refine g_no rfl rfl rfl ?_
      refine g_no rfl rfl rfl ?_
      refine g_no rfl rfl rfl ?_
      refine g_no rfl rfl rfl ?_
      refine g_no rfl rfl rfl ?_
      refine g_yes rfl rfl ?_
      refine pick_f rfl rfl ?_
      refine pick_f rfl rfl ?_
      refine m_int rfl rfl ?_
      refine m_bool rfl rfl ?_
      refine m_int rfl rfl ?_
      refine o_nil ?_
      refine k_ret (ret_tmps (ts := [6, 7, 8]) (v := .tuple #[.int _ _, .bool _, .int _ _]) rfl rfl ?_)
      rw [hcell]
      refine ⟨congrArg (fun x => Value.tuple #[.int .i64 ((q : Int) + 1 + (j : Int)), .bool x, .int .i64 0]) ?_, rfl⟩
      unfold refB
      exact (decide_eq_false (fun hh => hh.elim h60 (fun hh => h hh.1))).symm
end Go.Proofs.YtchbidckckmobaaDoor

/- The heap's Get and Set. No condition beyond what each contract names. -/
namespace Go.Proofs.YtchbidckckmobaaDoor
open Go.RowKit E
set_option linter.unusedVariables false
set_option linter.unusedSimpArgs false
set_option maxRecDepth 100000
attribute [local irreducible] ow qw kw kq cw opW Ret
theorem cell_e {ws L : List Int} {p i : Int} (hW : WFH ws L) (h : (cellH ws L p i).2.2 = 0) : ∃ (q j : Nat) (hq : q < ws.length), p = q ∧ i = j ∧ (q : Int) ∈ L ∧ (openW (ws[q])).2.2.2.2 = 0 ∧ (j : Int) < (openW (ws[q])).2.2.1 ∧ q + 1 + j < ws.length ∧ cellH ws L p i = (((q + 1 + j : Nat) : Int), refB (openW (ws[q])).1 (openW (ws[q])).2.2.2.1 j, 0) := by
  by_cases he : (lookH ws L p).2.2.2 = 0
  · have hp := (look_e hW).1 he
    obtain ⟨q, hq, hpq, hq1, hq0, hqn⟩ := hW.at hp
    subst hpq
    have hgd : ws.getD (q : Int).toNat 0 = ws[q] := getD_get ws q hq
    by_cases hi : i < 0 ∨ (lookH ws L q).2.2.1 ≤ i
    · unfold cellH at h
      rw [if_neg (by simpa using he), if_pos hi] at h
      cases h
    · have hln : (lookH ws L q).2.2.1 = (openW (ws[q])).2.2.1 := by rw [look_in hp, hgd]
      rw [hln] at hi
      obtain ⟨j, hj⟩ : ∃ j : Nat, i = (j : Int) := ⟨i.toNat, by omega⟩
      subst hj
      refine ⟨q, j, hq, rfl, rfl, hp, hq0, by omega, by omega, ?_⟩
      unfold cellH
      rw [if_neg (by simpa using he), hln, if_neg hi, hgd]
      rfl
  · unfold cellH at h
    rw [if_pos he] at h
    exact absurd h he
def getH (ws L : List Int) (p i : Int) : Int × Int := if (cellH ws L p i).2.2 ≠ 0 then (0, (cellH ws L p i).2.2) else (ws.getD (cellH ws L p i).1.toNat 0, 0)
theorem get_ok (k : Nat → Prop) (w : World) (hb : Nat) (ws : List Int) (lim : Int) (L : List Int) (p i : Int) (h : HP k w hb ws lim L) (hW : WFH ws L) :
    Ret Tryd.prog 32 [.pointer (some ⟨hb, 0, none⟩), .int .i64 p, .int .i64 i] w (fun v w' => v = .tuple #[.int .i64 (getH ws L p i).1, .int .i64 (getH ws L p i).2] ∧ w' = w) := by
  have hHP := h
  obtain ⟨a, c, r, m, hB, hS, hM, hg, hk⟩ := h
  refine fn_enter (n := 29) Tryd.func32 rfl rfl (Nat.le_of_ble_eq_true rfl) (fun e => ?_)
  refine k_seq ?_
  refine k_region ?_
  refine m_int rfl rfl ?_
  refine m_int rfl rfl ?_
  refine o_nil ?_
  refine k_seq ?_
  refine k_region ?_
  refine m_ptr rfl rfl ?_
  refine m_int rfl rfl ?_
  refine m_int rfl rfl ?_
  refine o_call rfl rfl (cell_ok k w hb ws lim L p i hHP hW) (fun v w1 hv => ?_)
  obtain ⟨rfl, rfl⟩ := hv
  refine m_any rfl rfl ?_
  refine o_extr rfl rfl ?_
  refine o_extr rfl rfl ?_
  refine o_extr rfl rfl ?_
  refine m_int rfl rfl ?_
  refine m_bool rfl rfl ?_
  refine m_int rfl rfl ?_
  refine o_nil ?_
  refine k_seq ?_
  refine k_seq ?_
  refine k_region ?_
  refine m_int rfl rfl ?_
  refine b_neq rfl rfl ?_
  refine o_nil ?_
  refine k_cond rfl (fun h => ?_) (fun h => ?_)
  ·
    refine k_seq ?_
    refine k_region ?_
    refine m_int rfl rfl ?_
    refine m_int rfl rfl ?_
    refine m_int rfl rfl ?_
    refine o_nil ?_
    refine k_ret (ret_tmps (ts := [6, 7]) (v := .tuple #[.int _ _, .int _ _]) rfl rfl ?_)
    unfold getH; rw [if_pos h]; exact ⟨rfl, rfl⟩
  have h0 := Decidable.of_not_not h
  obtain ⟨q, j, hq, rfl, rfl, hqL, hq0, hjn, hin, hcell⟩ := cell_e hW h0
  have hx := iv_at ws (q + 1 + j) hin
  have hRS := hS.rd
  obtain ⟨b1, o1, hae, hc1⟩ := hRS _ _ hx
  subst hae
  rw [hcell]
  refine k_skip ?_
  refine k_seq ?_
  refine k_region ?_
  refine m_ptr rfl rfl ?_
  refine o_nilc rfl ?_
  refine o_fld0 rfl rfl ?_
  refine o_ld (v := .slice (some ⟨b1, o1, none⟩) ws.length c) rfl rfl (hB.at rfl) ?_
  refine m_int rfl rfl ?_
  refine o_ixs1 (m := q + 1 + j) Tryd.underlying22 rfl rfl rfl hin ?_
  refine o_ld (v := iv (ws[q + 1 + j])) rfl rfl hc1 ?_
  refine m_int rfl rfl ?_
  refine m_int rfl rfl ?_
  refine o_nil ?_
  refine k_ret (ret_tmps (ts := [6, 7]) (v := .tuple #[.int _ _, .int _ _]) rfl rfl ?_)
  refine ⟨?_, rfl⟩
  unfold getH
  rw [hcell, if_neg (fun hh => hh rfl)]
  show _ = Value.tuple #[.int .i64 (ws.getD (q + 1 + j) 0), .int .i64 0]
  rw [getD_get ws _ hin]
def setH (ws L : List Int) (p i v : Int) : Int × List Int :=
  if (cellH ws L p i).2.2 ≠ 0 then ((cellH ws L p i).2.2, ws)
  else if (cellH ws L p i).2.1 = true ∧ v ≠ 0 ∧ v ∉ L then (1, ws)
  else (0, ws.set (cellH ws L p i).1.toNat v)
theorem set_ok (k : Nat → Prop) (w : World) (hb : Nat) (ws : List Int) (lim : Int) (L : List Int) (p i x : Int) (h : HP k w hb ws lim L) (hW : WFH ws L) (hu : (ws.length : Int) ≤ lim + 1) (hx : -9223372036854775808 ≤ x ∧ x ≤ 9223372036854775807) :
    Ret Tryd.prog 30 [.pointer (some ⟨hb, 0, none⟩), .int .i64 p, .int .i64 i, .int .i64 x] w (fun v w' => v = .int .i64 (setH ws L p i x).1 ∧ HRes k w hb lim w' (setH ws L p i x).2 L) := by
  have hHP := h
  obtain ⟨a, c, r, m, hB, hS, hM, hg, hk1, hk2, hk3⟩ := h
  refine fn_enter (n := 44) Tryd.func30 rfl rfl (Nat.le_of_ble_eq_true rfl) (fun e => ?_)
  refine k_seq ?_
  refine k_region ?_
  refine m_int rfl rfl ?_
  refine o_nil ?_
  refine k_seq ?_
  refine k_region ?_
  refine m_ptr rfl rfl ?_
  refine m_int rfl rfl ?_
  refine m_int rfl rfl ?_
  refine o_call rfl rfl (cell_ok k w hb ws lim L p i hHP hW) (fun v w1 hv => ?_)
  obtain ⟨rfl, rfl⟩ := hv
  refine m_any rfl rfl ?_
  refine o_extr rfl rfl ?_
  refine o_extr rfl rfl ?_
  refine o_extr rfl rfl ?_
  refine m_int rfl rfl ?_
  refine m_bool rfl rfl ?_
  refine m_int rfl rfl ?_
  refine o_nil ?_
  refine k_seq ?_
  refine k_seq ?_
  refine k_region ?_
  refine m_int rfl rfl ?_
  refine b_neq rfl rfl ?_
  refine o_nil ?_
  refine k_cond rfl (fun h => ?_) (fun h => ?_)
  ·
    refine k_seq ?_
    refine k_region ?_
    refine m_int rfl rfl ?_
    refine m_int rfl rfl ?_
    refine o_nil ?_
    refine k_ret (ret_tmps (ts := [8]) (v := .int _ _) rfl rfl ?_)
    have e : setH ws L p i x = ((cellH ws L p i).2.2, ws) := if_pos h
    rw [e]; exact ⟨rfl, hHP, hW, hu, (Keep.refl [] _).h⟩
  have h0 := Decidable.of_not_not h
  obtain ⟨rf, hrf⟩ : ∃ rf, (cellH ws L p i).2.1 = rf := ⟨_, rfl⟩
  rw [hrf]
  refine k_skip ?_
  refine k_seq ?_
  refine k_seq ?_
  refine k_cut (σ := Unit) (fun s => [(0, .pointer (some ⟨hb, 0, none⟩)), (3, .int .i64 x), (9, .int .i64 (cellH ws L p i).1), (36, .bool (decide (rf = true ∧ x ≠ 0 ∧ x ∉ L)))]) (fun s w' => w' = w1) ?_ (fun s e w' hJ => ?_)
  ·
    refine k_region ?_
    refine m_bool rfl rfl ?_
    refine m_bool rfl rfl ?_
    refine o_split (t := 24) (p := rf = true) (by show Value.bool rf = _; cases rf <;> rfl) (fun h => ?_) (fun h => ?_)
    ·
      have h24 := h
      refine g_yes rfl rfl ?_
      refine m_int rfl rfl ?_
      refine g_yes rfl rfl ?_
      refine b_neq rfl rfl ?_
      refine pick_t rfl rfl ?_
      refine m_bool rfl rfl ?_
      refine o_split (t := 28) rfl (fun h => ?_) (fun h => ?_)
      ·
        have h28 := h
        refine g_yes rfl rfl ?_
        refine m_ptr rfl rfl ?_
        refine g_yes rfl rfl ?_
        refine o_nilc rfl ?_
        refine g_yes rfl rfl ?_
        refine o_fld (off := 2) rfl rfl ?_
        refine g_yes rfl rfl ?_
        refine o_ld (v := .map (some r)) rfl rfl (hB.at rfl) ?_
        refine g_yes rfl rfl ?_
        refine m_int rfl rfl ?_
        refine g_yes rfl rfl ?_
        refine o_look (kv := Value.int .i64) (q := x) (v := .bool (decide (x ∈ L))) Tryd.underlying104 (key_int Tryd.underlying2) inf4 rfl rfl hM (by rw [hg x]; by_cases hp : x ∈ L <;> simp [hp]) ?_
        refine g_yes rfl rfl ?_
        refine u_not rfl ?_
        refine pick_t rfl rfl ?_
        refine o_nil ?_
        refine k_goal ⟨(), ⟨rfl, rfl, rfl, congrArg Value.bool (decide_eq_decide.2 ⟨fun hh => ⟨h24, h28, hh⟩, fun hh => hh.2.2⟩), trivial⟩, rfl⟩
      ·
        have h28 := h
        refine g_no rfl rfl rfl ?_
        refine g_no rfl rfl rfl ?_
        refine g_no rfl rfl rfl ?_
        refine g_no rfl rfl rfl ?_
        refine g_no rfl rfl rfl ?_
        refine g_no rfl rfl rfl ?_
        refine g_no rfl rfl rfl ?_
        refine pick_f rfl rfl ?_
        refine o_nil ?_
        refine k_goal ⟨(), ⟨rfl, rfl, rfl, congrArg Value.bool (decide_eq_false (fun hh => h28 hh.2.1)).symm, trivial⟩, rfl⟩
    ·
      have h24 := h
      refine g_no rfl rfl rfl ?_
      refine g_no rfl rfl rfl ?_
      refine pick_f rfl rfl ?_
      refine m_bool rfl rfl ?_
      refine g_no rfl rfl rfl ?_
      refine g_no rfl rfl rfl ?_
      refine g_no rfl rfl rfl ?_
      refine g_no rfl rfl rfl ?_
      refine g_no rfl rfl rfl ?_
      refine g_no rfl rfl rfl ?_
      refine g_no rfl rfl rfl ?_
      refine pick_f rfl rfl ?_
      refine o_nil ?_
      refine k_goal ⟨(), ⟨rfl, rfl, rfl, congrArg Value.bool (decide_eq_false (fun hh => h24 hh.1)).symm, trivial⟩, rfl⟩
  subst hJ
  refine k_cond rfl (fun h => ?_) (fun h => ?_)
  ·
    refine k_seq ?_
    refine k_region ?_
    refine m_int rfl rfl ?_
    refine o_nil ?_
    refine k_ret (ret_tmps (ts := [8]) (v := .int _ _) rfl rfl ?_)
    have e : setH ws L p i x = (1, ws) := by unfold setH; rw [if_neg (by simpa using h0), hrf, if_pos h]
    rw [e]; exact ⟨rfl, hHP, hW, hu, (Keep.refl [] _).h⟩
  have e : setH ws L p i x = (0, ws.set (cellH ws L p i).1.toNat x) := by unfold setH; rw [if_neg (by simpa using h0), hrf, if_neg h]
  obtain ⟨q, j, hq, rfl, rfl, hqL, hq0, hjn, hin, hcell⟩ := cell_e hW h0
  rw [hcell] at e
  replace e : setH ws L (q : Int) (j : Int) x = (0, ws.set (q + 1 + j) x) := e
  rw [hcell]
  obtain ⟨g, cur, hae, hBg, hgs⟩ := hS.blk (by omega)
  subst hae
  refine k_skip ?_
  refine k_seq ?_
  refine k_region ?_
  refine m_ptr rfl rfl ?_
  refine o_nilc rfl ?_
  refine o_fld0 rfl rfl ?_
  refine o_ld (v := .slice (some ⟨g, 0, none⟩) ws.length c) rfl rfl (hB.at rfl) ?_
  refine m_int rfl rfl ?_
  refine m_int rfl rfl ?_
  refine o_ixs1 (m := q + 1 + j) Tryd.underlying22 rfl rfl rfl hin ?_
  refine o_st (v := iv x) rfl rfl rfl rfl hBg (by omega) (fun w3 hB3 hK3 hZ3 => ?_)
  have hS3 := Sl.set hS hin hBg hB3
  rw [show (ws.map iv).set (q + 1 + j) (iv x) = (ws.set (q + 1 + j) x).map iv by rw [List.map_set]] at hS3
  have hne : hb ≠ g := fun e => by subst e; exact absurd (hB.ty hBg) (by decide)
  have hrg : r ≠ g := fun e => by subst e; exact hM.blk hBg rfl
  refine o_nil ?_
  refine k_seq ?_
  refine k_region ?_
  refine m_int rfl rfl ?_
  refine o_nil ?_
  refine k_ret (ret_tmps (ts := [8]) (v := .int _ _) rfl rfl ?_)
  rw [e]
  refine ⟨rfl, ⟨some ⟨g, 0, none⟩, c, r, m, ?_, ?_, hM.keep hK3 (by simpa using hrg), hg, hk1, hk2, hk3⟩, hW.set hqL (by omega) (by rw [getD_get ws q hq]; omega) hx, by simp only [List.length_set]; exact hu, Keep.hb hK3 hBg (.inl rfl) (hk3 _ rfl)⟩
  · simp only [List.length_set]; exact hB.keep hK3 (by simpa using hne)
  · simp only [List.length_set]; exact hS3
end Go.Proofs.YtchbidckckmobaaDoor
