/- The rules of the operations on maps: a map as a list of keys and values; keys that are integers or strings. No condition. -/
import Derived.Test.YtbfphjhahgpndaaAny
namespace Go.Proofs.Ytbfphjhahgpndaa
open Go.RowKit
set_option linter.unusedVariables false
set_option linter.unusedSimpArgs false
namespace E

/-- block r is a map that holds this list of keys and values -/
def Mp {κ : Type} (w : World) (r : Nat) (kv : κ → Value) (l : List (κ × Value)) : Prop :=
  ∃ es clock, w.heap[r]? = some (.map es clock) ∧ es.toList.map (fun x => (x.key, x.val)) = l.map (fun p => (kv p.1, p.2)) ∧ (∀ x ∈ es.toList, x.born < clock) ∧ (es.toList.map (·.born)).Nodup

theorem Mp.lt {κ : Type} {w : World} {r : Nat} {kv : κ → Value} {l : List (κ × Value)} (h : Mp w r kv l) : r < w.heap.size := by
  obtain ⟨es, clock, h, _⟩ := h
  exact (Array.getElem?_eq_some_iff.1 h).1
theorem Mp.keep {κ : Type} {S : List Nat} {w w' : World} {r : Nat} {kv : κ → Value} {l : List (κ × Value)} (h : Mp w r kv l) (hk : Keep S w w') (hn : r ∉ S) : Mp w' r kv l := by
  have hlt := h.lt
  obtain ⟨es, clock, h, he⟩ := h
  exact ⟨es, clock, (hk.block r hlt hn).trans h, he⟩

/-- a key type whose values are met at once -/
structure KeyOk (P : Program) (K : TypeId) {κ : Type} [DecidableEq κ] (kv : κ → Value) : Prop where
  check : ∀ (b : Bool) (x : κ) (w : World), (Instr.checkKey b 10000 K (kv x)).run P w = .ok () w
  find : ∀ (x : κ) (l : List MapEntry) (ks : List κ) (w : World), l.map (·.key) = ks.map kv →
    (Instr.findKey K (kv x) l).run P w = .ok ((ks.findIdx? (fun y => decide (x = y))).map (fun i => (i, (l.getD i default).val))) w
  bits : ∀ (x : κ), Instr.sameBits 10000 (kv x) (kv x) = true

def getM {κ : Type} [DecidableEq κ] (l : List (κ × Value)) (x : κ) : Option Value := (l.find? (fun p => decide (x = p.1))).map (·.2)
def putM {κ : Type} [DecidableEq κ] (l : List (κ × Value)) (x : κ) (v : Value) : List (κ × Value) :=
  match l with
  | [] => [(x, v)]
  | p :: l => if x = p.1 then (x, v) :: l else p :: putM l x v
def delM {κ : Type} [DecidableEq κ] (l : List (κ × Value)) (x : κ) : List (κ × Value) :=
  match l with
  | [] => []
  | p :: l => if x = p.1 then l else p :: delM l x

section
variable {κ : Type} [DecidableEq κ]
theorem getM_nil (x : κ) : getM ([] : List (κ × Value)) x = none := rfl
theorem getM_cons (p : κ × Value) (l : List (κ × Value)) (x : κ) : getM (p :: l) x = if x = p.1 then some p.2 else getM l x := by
  unfold getM
  rw [List.find?_cons]
  by_cases h : x = p.1 <;> simp [h]
theorem getM_put (l : List (κ × Value)) (x y : κ) (v : Value) : getM (putM l x v) y = if y = x then some v else getM l y := by
  induction l with
  | nil => simp [putM, getM_cons, getM_nil]
  | cons p l ih =>
    unfold putM
    by_cases h : x = p.1
    · rw [if_pos h, getM_cons, getM_cons]
      by_cases hy : y = x
      · simp [hy]
      · rw [if_neg hy, if_neg hy, if_neg (by rw [← h]; exact hy)]
    · rw [if_neg h, getM_cons, ih, getM_cons]
      by_cases hy : y = x
      · subst hy; simp [h]
      · simp [hy]
theorem findIdx_get (l : List (κ × Value)) (x : κ) (d : κ × Value) : ((l.map (·.1)).findIdx? (fun y => decide (x = y))).map (fun i => (l.getD i d).2) = getM l x := by
  induction l with
  | nil => rfl
  | cons p l ih =>
    rw [List.map_cons, List.findIdx?_cons, getM_cons]
    by_cases h : x = p.1
    · simp [h]
    · simp only [h, decide_false, if_false, Bool.false_eq_true, Option.map_map]
      rw [← ih]
      congr 1
end

variable {P : Program} {n : Nat} {e : Env} {w : World} {l0 l : List Oper} {K : Env → World → Prop} {d : Nat} {T : TypeId} {pos : String} {af : Array Edge} {op : Op} {x y : Operand} {TX TY : TypeId}

theorem Mp.keys {κ : Type} {l : List (κ × Value)} {kv : κ → Value} {es : Array MapEntry} (he : es.toList.map (fun x => (x.key, x.val)) = l.map (fun p => (kv p.1, p.2))) : es.toList.map (·.key) = (l.map (·.1)).map kv := by
  have := congrArg (List.map Prod.fst) he
  simpa [List.map_map, Function.comp_def] using this
theorem Mp.vals {κ : Type} {l : List (κ × Value)} {kv : κ → Value} {es : Array MapEntry} (he : es.toList.map (fun x => (x.key, x.val)) = l.map (fun p => (kv p.1, p.2))) (i : Nat) (h : i < l.length) (dd : κ × Value) : (es.toList.getD i default).val = (l.getD i dd).2 := by
  have hlen : es.toList.length = l.length := by have := congrArg List.length he; simpa using this
  have := congrArg (fun q => q[i]?) he
  simp only [List.getElem?_map] at this
  rw [List.getElem?_eq_getElem (by omega), List.getElem?_eq_getElem h] at this
  simp at this
  simp only [List.getD, List.getElem?_eq_getElem (show i < es.toList.length by omega), List.getElem?_eq_getElem h, Option.getD_some]
  simpa using this.2

theorem run_find {κ : Type} [DecidableEq κ] {kv : κ → Value} {KT : TypeId} (hk : KeyOk P KT kv) {l : List (κ × Value)} {es : Array MapEntry} (he : es.toList.map (fun x => (x.key, x.val)) = l.map (fun p => (kv p.1, p.2))) (x : κ) (w : World) :
    (Instr.findKey KT (kv x) es.toList).run P w = .ok (((l.map (·.1)).findIdx? (fun y => decide (x = y))).map (fun i => (i, (es.toList.getD i default).val))) w := hk.find x es.toList (l.map (·.1)) w (Mp.keys he)

theorem run_lookup {κ : Type} [DecidableEq κ] {kv : κ → Value} {KT E : TypeId} {sz by_ : Nat} {z : Value} (hu : P.underlying TX = some (.map KT E)) (hk : KeyOk P KT kv) (hz : infB P E sz by_ z) {r : Nat} {l : List (κ × Value)} (hm : Mp w r kv l) (x : κ) (ok : Bool) :
    (Instr.lookup TX (.map (some r)) (kv x) ok).run P w = .ok (if ok then .tuple #[(getM l x).getD z, .bool (getM l x).isSome] else (getM l x).getD z) w := by
  obtain ⟨es, clock, hh, he, hbn⟩ := hm
  obtain ⟨i, hi1, hi2, hi3, hi4⟩ := hz
  have hg : (getObj r).run P w = .ok (.map es clock) w := by simp [getObj, Sem.run, hh]
  have hf := run_find hk he x w
  cases hx : (l.map (·.1)).findIdx? (fun y => decide (x = y)) with
  | none =>
    have hn : getM l x = none := by rw [← findIdx_get l x (x, z), hx]; rfl
    rw [hx] at hf
    cases ok <;> simp [Instr.lookup, run_underlying hu, hg, hk.check, hf, zeroValue, typeInfo, hi1, hi4, hn]
  | some j =>
    have hj : j < l.length := by
      have := List.findIdx?_eq_some_iff_findIdx_eq.1 hx
      simpa using this.1
    have hs : getM l x = some (l.getD j (x, z)).2 := by rw [← findIdx_get l x (x, z), hx]; rfl
    rw [hx] at hf
    simp only [Option.map_some] at hf
    rw [Mp.vals he j hj (x, z)] at hf
    cases ok <;> simp only [Instr.lookup, Sem.run_bind, run_underlying hu, hg, hk.check, hf, hs, Result.andThen_ok, Sem.run_pure] <;> simp [hg, hk.check, hf, hs]

/-- m[k] -/
theorem o_look {κ : Type} [DecidableEq κ] {kv : κ → Value} {KT E : TypeId} {sz by_ : Nat} {z v : Value} {r : Nat} {m : List (κ × Value)} {q : κ} (hu : P.underlying TX = some (.map KT E)) (hk : KeyOk P KT kv) (hz : infB P E sz by_ z) (hx : ev n e x = .map (some r)) (hy : ev n e y = kv q) (hm : Mp w r kv m)
    (hv : (getM m q).getD z = v) (h : ow P n l0 K l (upd e d v) w) : ow P n l0 K (⟨some d, .lookup TX x y false, T, pos, af, none⟩ :: l) e w := by
  refine o_run (v := v) (w' := w) ?_ h
  subst hv
  simp [execOp, hx, hy, run_lookup hu hk hz hm q]
/-- v, ok := m[k] -/
theorem o_lookok {κ : Type} [DecidableEq κ] {kv : κ → Value} {KT E : TypeId} {sz by_ : Nat} {z v : Value} {b : Bool} {r : Nat} {m : List (κ × Value)} {q : κ} (hu : P.underlying TX = some (.map KT E)) (hk : KeyOk P KT kv) (hz : infB P E sz by_ z) (hx : ev n e x = .map (some r)) (hy : ev n e y = kv q) (hm : Mp w r kv m)
    (hv : (getM m q).getD z = v) (hb : (getM m q).isSome = b) (h : ow P n l0 K l (upd e d (.tuple #[v, .bool b])) w) : ow P n l0 K (⟨some d, .lookup TX x y true, T, pos, af, none⟩ :: l) e w := by
  refine o_run (v := .tuple #[v, .bool b]) (w' := w) ?_ h
  subst hv hb
  simp [execOp, hx, hy, run_lookup hu hk hz hm q]

theorem putM_at {κ : Type} [DecidableEq κ] {kv : κ → Value} {l : List (κ × Value)} {es : List MapEntry} (he : es.map (fun x => (x.key, x.val)) = l.map (fun p => (kv p.1, p.2))) (x : κ) (v : Value) :
    match (l.map (·.1)).findIdx? (fun y => decide (x = y)) with
    | some i => (es.modify i fun e => { e with key := kv x, val := v }).map (fun x => (x.key, x.val)) = (putM l x v).map (fun p => (kv p.1, p.2)) ∧ i < es.length ∧ (es.getD i default).key = kv x
    | none => ∀ c : Nat, (es ++ [(⟨kv x, v, c⟩ : MapEntry)]).map (fun x => (x.key, x.val)) = (putM l x v).map (fun p => (kv p.1, p.2)) := by
  induction l generalizing es with
  | nil =>
    have : es = [] := by simpa using he
    subst this
    simp [putM]
  | cons p l ih =>
    obtain ⟨e0, es', rfl⟩ : ∃ e0 es', es = e0 :: es' := by
      cases es with
      | nil => simp at he
      | cons a b => exact ⟨a, b, rfl⟩
    simp only [List.map_cons, List.cons.injEq, Prod.mk.injEq] at he
    have ihh := ih he.2
    rw [List.map_cons, List.findIdx?_cons]
    by_cases h : x = p.1
    · simp only [h, decide_true, if_true]
      refine ⟨?_, by simp, ?_⟩
      · simp [putM, he.2]
      · simp [he.1.1]
    · simp only [h, decide_false, if_false, Bool.false_eq_true]
      cases hx : (l.map (·.1)).findIdx? (fun y => decide (x = y)) with
      | none =>
        rw [hx] at ihh
        simp only [Option.map_none]
        intro c
        have := ihh c
        simp only [putM, if_neg h, List.cons_append, List.map_cons, he.1.1, he.1.2, this]
      | some i =>
        rw [hx] at ihh
        simp only [Option.map_some]
        refine ⟨?_, by simpa using ihh.2.1, by simpa using ihh.2.2⟩
        simp only [putM, if_neg h, List.modify_succ_cons, List.map_cons, he.1.1, he.1.2, ihh.1]

theorem run_setObj {r : Nat} {o o' : Obj} (h : w.heap[r]? = some o) (hc : ∀ c t f, o ≠ .cells c t f) : (setObj r o').run P w = .ok () { w with heap := w.heap.setIfInBounds r o' } := by
  cases o <;> first | exact absurd rfl (hc _ _ _) | simp [setObj, Sem.run, h]

theorem keep_setObj {r : Nat} {o' : Obj} : Keep [r] w { w with heap := w.heap.setIfInBounds r o' } :=
  ⟨rfl, rfl, rfl, by simp, fun k hk hn => by
    have : r ≠ k := fun e => hn (by simp [e])
    simp [Array.getElem?_setIfInBounds_ne this]⟩

/-- m[k] = v -/
theorem o_mput {κ : Type} [DecidableEq κ] {kv : κ → Value} {KT E : TypeId} {v : Value} {r : Nat} {m : List (κ × Value)} {q : κ} {u : Operand} (hu : P.underlying TX = some (.map KT E)) (hk : KeyOk P KT kv) (hx : ev n e x = .map (some r)) (hy : ev n e y = kv q) (hv : ev n e u = v) (hm : Mp w r kv m)
    (ho : op = .mapUpdate TX x y u ∨ op = .insert TX x y u)
    (h : ∀ w', Mp w' r kv (putM m q v) → Keep [r] w w' → w'.heap.size = w.heap.size → ow P n l0 K l e w') : ow P n l0 K (⟨none, op, T, pos, af, none⟩ :: l) e w := by
  obtain ⟨es, clock, hh, he, hbn, hnd⟩ := hm
  have hlt : r < w.heap.size := (Array.getElem?_eq_some_iff.1 hh).1
  have hg : (getObj r).run P w = .ok (.map es clock) w := by simp [getObj, Sem.run, hh]
  have hf := run_find hk he q w
  have hat := putM_at he q v
  have hset : ∀ o', (setObj r o').run P w = .ok () { w with heap := w.heap.setIfInBounds r o' } := fun o' => run_setObj hh (by intros; simp)
  have hexec : ∀ o', (Instr.mapUpdate TX (.map (some r)) (kv q) v).run P w = .ok () { w with heap := w.heap.setIfInBounds r o' } → (execOp (ev n e) ⟨none, op, T, pos, af, none⟩).run P w = .ok .skip { w with heap := w.heap.setIfInBounds r o' } := by
    intro o' hr
    rcases ho with rfl | rfl <;> simp [execOp, hx, hy, hv, hr]
  cases hi : (m.map (·.1)).findIdx? (fun y => decide (q = y)) with
  | none =>
    rw [hi] at hf hat
    refine o_runs (w' := { w with heap := w.heap.setIfInBounds r (.map (es.push ⟨kv q, v, clock⟩) (clock + 1)) }) (hexec _ ?_) (h _ ⟨es.push ⟨kv q, v, clock⟩, clock + 1, by simp [hlt], ?_, ?_, ?_⟩ keep_setObj (by simp))
    · simp only [Option.map_none] at hf
      simp only [Instr.mapUpdate, Sem.run_bind, run_underlying hu, hg, hk.check, hf, hset, Result.andThen_ok, Sem.run_pure]
    · simpa using hat clock
    · intro x hx
      simp at hx
      rcases hx with hx | rfl
      · have := hbn x (by simpa using hx); omega
      · simp
    · rw [Array.toList_push, List.map_append, List.nodup_append]
      refine ⟨hnd, by simp, fun a ha b hb e => ?_⟩
      simp at hb
      obtain ⟨x, hx, rfl⟩ := List.mem_map.1 ha
      have := hbn x hx
      omega
  | some i =>
    rw [hi] at hf hat
    obtain ⟨h1, h2, h3⟩ := hat
    refine o_runs (w' := { w with heap := w.heap.setIfInBounds r (.map (es.modify i fun e => { e with key := kv q, val := v }) clock) }) (hexec _ ?_) (h _ ⟨es.modify i fun e => { e with key := kv q, val := v }, clock, by simp [hlt], ?_, ?_, ?_⟩ keep_setObj (by simp))
    · simp only [Option.map_some] at hf
      have hst : Instr.keyThatStays (((es[i]?).map (·.key)).getD (kv q)) (kv q) = pure (kv q) := by
        have hkey : ((es[i]?).map (·.key)).getD (kv q) = kv q := by
          have hsz : i < es.size := by simpa using h2
          rw [Array.getElem?_eq_getElem hsz]
          simp only [List.getD, List.getElem?_eq_getElem h2, Option.getD_some] at h3
          simpa using h3
        rw [hkey]
        unfold Instr.keyThatStays
        rw [if_pos (hk.bits q)]
      simp only [Instr.mapUpdate, Sem.run_bind, run_underlying hu, hg, hk.check, hf, hst, hset, Result.andThen_ok, Sem.run_pure]
    · simpa using h1
    · intro x hx
      obtain ⟨j, hj, rfl⟩ := List.getElem_of_mem hx
      have hj' : j < es.toList.length := by simpa using hj
      have := hbn _ (List.getElem_mem hj')
      have hm : (es.modify i fun e => { e with key := kv q, val := v }).toList[j].born = es.toList[j].born := by
        simp only [Array.getElem_toList, Array.getElem_modify]
        split <;> rfl
      rw [hm]
      exact this
    · have hb : (es.modify i fun e => { e with key := kv q, val := v }).toList.map (·.born) = es.toList.map (·.born) := by
        apply List.ext_getElem
        · simp
        · intro j h1 h2
          simp only [List.getElem_map, Array.getElem_toList, Array.getElem_modify]
          split <;> rfl
      rw [hb]
      exact hnd

/-- make(map[K]V) -/
theorem o_mkmap {κ : Type} (kv : κ → Value) (h : ∀ r w', Mp w' r kv [] → Keep [] w w' → w.heap.size = r → w'.heap.size = r + 1 → ow P n l0 K l (upd e d (.map (some r))) w') :
    ow P n l0 K (⟨some d, .makeMap TX none, T, pos, af, none⟩ :: l) e w := by
  refine o_run (v := .map (some w.heap.size)) (w' := w.alloc (.map #[] 0)) ?_ (h _ _ ⟨#[], 0, heap_alloc_new w _, rfl, by simp⟩ (keep_alloc _ _ _) rfl (by simp))
  simp [execOp, Instr.makeMap]

/-- len(m) -/
theorem o_lenm {κ : Type} {kv : κ → Value} {KT E : TypeId} {r : Nat} {m : List (κ × Value)} (hu : P.underlying TX = some (.map KT E)) (hx : ev n e x = .map (some r)) (hm : Mp w r kv m) (h : ow P n l0 K l (upd e d (.int .i64 (m.length : Int))) w) :
    ow P n l0 K (⟨some d, .call ⟨.builtin .len, #[x], #[TX]⟩, T, pos, af, none⟩ :: l) e w := by
  obtain ⟨es, clock, hh, he, hbn⟩ := hm
  have hg : (getObj r).run P w = .ok (.map es clock) w := by simp [getObj, Sem.run, hh]
  have hl : es.size = m.length := by have := congrArg List.length he; simpa using this
  refine o_run (v := .int .i64 (m.length : Int)) (w' := w) ?_ h
  simp [execOp, resolve, invoke, builtin, hx, Builtin.len_, run_underlying hu, hg, goInt, hl]

theorem putM_new {κ : Type} [DecidableEq κ] : ∀ {l : List (κ × Value)} {x : κ} {v : Value}, getM l x = none → putM l x v = l ++ [(x, v)]
  | [], _, _, _ => rfl
  | p :: l, x, v, h => by
    rw [getM_cons] at h
    split at h
    · cases h
    · rename_i hx
      rw [putM, if_neg hx, putM_new h]; rfl
/-- the place of a new key -/
theorem o_mentry {κ : Type} [DecidableEq κ] {kv : κ → Value} {KT E : TypeId} {sz by_ : Nat} {z : Value} {r : Nat} {m : List (κ × Value)} {q : κ} {es : Array MapEntry} {clock : Nat} (hu : P.underlying TX = some (.map KT E)) (hk : KeyOk P KT kv) (hz : infB P E sz by_ z) (hx : ev n e x = .map (some r)) (hy : ev n e y = kv q)
    (hh : w.heap[r]? = some (.map es clock)) (he : es.toList.map (fun x => (x.key, x.val)) = m.map (fun p => (kv p.1, p.2))) (hn : getM m q = none)
    (h : ∀ w', w'.heap[r]? = some (.map (es.push ⟨kv q, z, clock⟩) (clock + 1)) → Keep [r] w w' → w'.heap.size = w.heap.size → ow P n l0 K l (upd e d (.tuple #[z, .int .i64 (clock : Int)])) w') : ow P n l0 K (⟨some d, .mapEntry TX x y, T, pos, af, none⟩ :: l) e w := by
  have hlt : r < w.heap.size := (Array.getElem?_eq_some_iff.1 hh).1
  have hg : (getObj r).run P w = .ok (.map es clock) w := by simp [getObj, Sem.run, hh]
  have hf := run_find hk he q w
  have hset : ∀ o', (setObj r o').run P w = .ok () { w with heap := w.heap.setIfInBounds r o' } := fun o' => run_setObj hh (by intros; simp)
  obtain ⟨i, hi1, hi2, hi3, hi4⟩ := hz
  have hnone : (m.map (·.1)).findIdx? (fun y => decide (q = y)) = none := by
    have := findIdx_get m q (q, z)
    rw [hn] at this
    simpa using this
  rw [hnone] at hf
  refine o_run (v := .tuple #[z, .int .i64 (clock : Int)]) (w' := { w with heap := w.heap.setIfInBounds r (.map (es.push ⟨kv q, z, clock⟩) (clock + 1)) }) ?_ (h _ (by simp [hlt]) keep_setObj (by simp))
  simp [execOp, hx, hy, Instr.mapEntry, run_underlying hu, hg, hk.check, hf, zeroValue, typeInfo, hi1, hi4, hset, goInt]
/-- what lies at the newest place is set -/
theorem o_estore {kq v0 v : Value} {r clock c2 : Nat} {es : Array MapEntry} {u : Operand} (hx : ev n e x = .map (some r)) (hy : ev n e y = .int .i64 (clock : Int)) (hv : ev n e u = v) (hh : w.heap[r]? = some (.map (es.push ⟨kq, v0, clock⟩) c2)) (hb : ∀ x ∈ es.toList, x.born < clock)
    (h : ∀ w', w'.heap[r]? = some (.map (es.push ⟨kq, v, clock⟩) c2) → Keep [r] w w' → w'.heap.size = w.heap.size → ow P n l0 K l e w') : ow P n l0 K (⟨none, .entryStore TX x y u, T, pos, af, none⟩ :: l) e w := by
  have hlt : r < w.heap.size := (Array.getElem?_eq_some_iff.1 hh).1
  have hg : (getObj r).run P w = .ok (.map (es.push ⟨kq, v0, clock⟩) c2) w := by simp [getObj, Sem.run, hh]
  have hset : ∀ o', (setObj r o').run P w = .ok () { w with heap := w.heap.setIfInBounds r o' } := fun o' => run_setObj hh (by intros; simp)
  have hfi : (es.push (⟨kq, v0, clock⟩ : MapEntry)).findIdx? (fun e => (e.born : Int) == (clock : Int)) = some es.size := by
    rw [Array.findIdx?_eq_some_iff_getElem]
    refine ⟨by simp, by simp, fun j hj => ?_⟩
    have hjs : j < es.size := by omega
    rw [Array.getElem_push_lt hjs]
    have := hb es[j] (by simp)
    simp
    omega
  have hmod : (es.push (⟨kq, v0, clock⟩ : MapEntry)).modify es.size (fun e => { e with val := v }) = es.push ⟨kq, v, clock⟩ := by
    apply Array.ext
    · simp
    · intro i h1 h2
      rw [Array.getElem_modify]
      simp only [Array.getElem_push]
      by_cases hi : i < es.size
      · have : ¬ es.size = i := by omega
        simp [hi, this]
      · have : es.size = i := by simp at h1; omega
        simp [hi, this]
  refine o_runs (w' := { w with heap := w.heap.setIfInBounds r (.map (es.push ⟨kq, v, clock⟩) c2) }) ?_ (h _ (by simp [hlt]) keep_setObj (by simp))
  simp [execOp, hx, hy, hv, Instr.entryStore, hg, asInt, asIntOf, hfi, hmod, hset]

/-! ### keys that are integers, strings -/
theorem findNow_int {k : IntKind} (a : Int) : ∀ (l : List MapEntry) (ks : List Int) (i : Nat), l.map (·.key) = ks.map (Value.int k) →
    Instr.findNow (.int k) (.int k a) l i = some ((ks.findIdx? (fun y => decide (a = y))).map (fun j => (i + j, (l.getD j default).val)))
  | [], ks, i, h => by
    have : ks = [] := by simpa using h.symm
    subst this
    rfl
  | x :: l, [], i, h => by simp at h
  | x :: l, b :: ks, i, h => by
    simp only [List.map_cons, List.cons.injEq] at h
    unfold Instr.findNow
    rw [h.1]
    simp only [Instr.sameNow, if_true]
    rw [List.findIdx?_cons]
    by_cases hab : a = b
    · simp [hab]
    · have : (a == b) = false := by simpa using hab
      rw [this, findNow_int a l ks (i + 1) h.2]
      simp only [hab, decide_false, if_false, Bool.false_eq_true, Option.map_map]
      congr 2
      funext j
      simp [Nat.add_assoc, Nat.add_comm 1 j]

theorem key_int {KT : TypeId} {k : IntKind} (hu : P.underlying KT = some (.int k)) : KeyOk P KT (Value.int k) where
  check := by
    intro b x w
    unfold Instr.checkKey
    simp [run_underlying hu]
  find := by
    intro x l ks w h
    unfold Instr.findKey
    simp [run_underlying hu, findNow_int x l ks 0 h]
  bits := by intro x; simp [Instr.sameBits]

theorem beq_bytes (a b : ByteArray) : (a == b) = decide (a = b) := by
  by_cases h : a = b
  · subst h
    rw [decide_eq_true rfl]
    show (a.data == a.data) = true
    exact beq_self_eq_true _
  · rw [decide_eq_false h]
    show (a.data == b.data) = false
    have : a.data ≠ b.data := fun e => h (by cases a; cases b; simpa using e)
    simpa using this
theorem findNow_str (a : ByteArray) : ∀ (l : List MapEntry) (ks : List ByteArray) (i : Nat), l.map (·.key) = ks.map Value.string →
    Instr.findNow .string (.string a) l i = some ((ks.findIdx? (fun y => decide (a = y))).map (fun j => (i + j, (l.getD j default).val)))
  | [], ks, i, h => by
    have : ks = [] := by simpa using h.symm
    subst this
    rfl
  | x :: l, [], i, h => by simp at h
  | x :: l, b :: ks, i, h => by
    simp only [List.map_cons, List.cons.injEq] at h
    unfold Instr.findNow
    rw [h.1]
    simp only [Instr.sameNow]
    rw [List.findIdx?_cons]
    by_cases hab : a = b
    · rw [beq_bytes, decide_eq_true hab]; simp [hab]
    · have : (a == b) = false := by rw [beq_bytes, decide_eq_false hab]
      rw [this, findNow_str a l ks (i + 1) h.2]
      simp only [hab, decide_false, if_false, Bool.false_eq_true, Option.map_map]
      congr 2
      funext j
      simp [Nat.add_assoc, Nat.add_comm 1 j]

theorem key_str {KT : TypeId} (hu : P.underlying KT = some .string) : KeyOk P KT Value.string where
  check := by
    intro b x w
    unfold Instr.checkKey
    simp [run_underlying hu]
  find := by
    intro x l ks w h
    unfold Instr.findKey
    simp [run_underlying hu, findNow_str x l ks 0 h]
  bits := by intro x; simp [Instr.sameBits, beq_bytes]

/-! ### keys that are structs -/
theorem find_asking {κ : Type} [DecidableEq κ] {KT : TypeId} {kv : κ → Value} (heq : ∀ x y w, (Op.equal KT (kv x) (kv y)).run P w = .ok (decide (x = y)) w) (x : κ) (w : World) : ∀ (l : List MapEntry) (ks : List κ) (i : Nat), l.map (·.key) = ks.map kv →
    (Instr.findAsking KT (kv x) l i).run P w = .ok ((ks.findIdx? (fun y => decide (x = y))).map (fun j => (i + j, (l.getD j default).val))) w
  | [], ks, i, h => by
    have : ks = [] := by simpa using h.symm
    subst this
    simp [Instr.findAsking]
  | e :: l, [], i, h => by simp at h
  | e :: l, k :: ks, i, h => by
    simp only [List.map_cons, List.cons.injEq] at h
    unfold Instr.findAsking
    rw [h.1]
    simp only [Sem.run_bind, heq, Result.andThen_ok, List.findIdx?_cons]
    by_cases hx : x = k
    · simp [hx]
    · simp only [hx, decide_false, Bool.false_eq_true, if_false]
      rw [find_asking heq x w l ks (i + 1) h.2]
      cases ks.findIdx? (fun y => decide (x = y)) with
      | none => rfl
      | some j => simp; omega
theorem key_ask {κ : Type} [DecidableEq κ] {KT : TypeId} {kv : κ → Value} {td : TypeDesc} (hu : P.underlying KT = some td) (hnow : ∀ a b, Instr.sameNow td (kv a) (kv b) = none) (hchk : ∀ b x w, (Instr.checkKey b 10000 KT (kv x)).run P w = .ok () w)
    (heq : ∀ x y w, (Op.equal KT (kv x) (kv y)).run P w = .ok (decide (x = y)) w) (hbits : ∀ x, Instr.sameBits 10000 (kv x) (kv x) = true) : KeyOk P KT kv where
  check := hchk
  find := by
    intro x l ks w h
    have hf := find_asking heq x w l ks 0 h
    simp only [Nat.zero_add] at hf
    unfold Instr.findKey
    cases l with
    | nil =>
      have : ks = [] := by simpa using h.symm
      subst this
      simp [run_underlying hu, Instr.findNow]
    | cons e l =>
      cases ks with
      | nil => simp at h
      | cons k ks =>
        have h0 : e.key = kv k := by simp at h; exact h.1
        simp only [Sem.run_bind, run_underlying hu, Result.andThen_ok, Instr.findNow, h0, hnow]
        exact hf
  bits := hbits
end E
end Go.Proofs.Ytbfphjhahgpndaa
