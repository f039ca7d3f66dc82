/- More rules: max of two integers; arrays of uint32 in a block. No condition. -/
import Derived.Test.YtbfphjhahgpndaaFrx
import Derived.Test.YtbfphjhahgpndaaAnz
namespace Go.Proofs.Ytbfphjhahgpndaa
open Go.RowKit
set_option linter.unusedVariables false
set_option linter.unusedSimpArgs false
namespace E
theorem o_max {P : Program} {n : Nat} {e : Env} {w : World} {l0 l : List Oper} {K : Env → World → Prop} {d : Nat} {T : TypeId} {pos : String} {af : Array Edge} {x y : Operand} {k : IntKind} {a b : Int} {ts : Array TypeId} (hx : ev n e x = .int k a) (hy : ev n e y = .int k b) (h : ow P n l0 K l (upd e d (.int k (if a < b then b else a))) w) :
    ow P n l0 K (⟨some d, .call ⟨.builtin .max, #[x, y], ts⟩, T, pos, af, none⟩ :: l) e w := by
  refine o_run (v := .int k (if a < b then b else a)) (w' := w) ?_ h
  simp [execOp, resolve, invoke, builtin, hx, hy, Builtin.max_, Builtin.max2]
/-- an array of uint32 -/
def arrU (f : Nat → Nat) (n : Nat) : Array Value := ((List.range n).map fun i => u32v (BitVec.ofNat 32 (f i))).toArray
theorem arrU_at (f : Nat → Nat) (n i : Nat) (h : i < n) : (arrU f n)[i]? = some (.int .u32 ((BitVec.ofNat 32 (f i)).toNat : Int)) := by
  simp [arrU, u32v, h]
theorem arrU_size (f : Nat → Nat) (n : Nat) : (arrU f n).size = n := by simp [arrU]
theorem arrU_set (f : Nat → Nat) (n i x : Nat) (h : i < n) : (arrU f n).setIfInBounds i (.int .u32 ((BitVec.ofNat 32 x).toNat : Int)) = arrU (fun j => if j = i then x else f j) n := by
  apply Array.ext
  · simp [arrU]
  · intro j h1 h2
    simp [arrU] at h1
    by_cases hj : j = i
    · subst hj; simp [arrU, u32v]
    · rw [Array.getElem_setIfInBounds (by simpa [arrU] using h1), if_neg (fun e => hj e.symm)]
      simp [arrU, u32v, hj]
theorem arrU_congr {f g : Nat → Nat} (n : Nat) (h : ∀ i, i < n → f i = g i) : arrU f n = arrU g n := by
  unfold arrU
  congr 1
  apply List.map_congr_left
  intro i hi
  rw [h i (List.mem_range.1 hi)]
theorem Mp.blk {κ : Type} {w : World} {r b : Nat} {kv : κ → Value} {m : List (κ × Value)} {cs : Array Value} {T : TypeId} (h : Mp w r kv m) (hb : Blk w b cs T) : b ≠ r := by
  rintro rfl
  obtain ⟨es, clock, h, _⟩ := h
  unfold Blk at hb
  rw [h] at hb
  cases hb
theorem Mp.obj {κ : Type} {w : World} {r : Nat} {kv : κ → Value} {m : List (κ × Value)} (h : Mp w r kv m) : ∃ es clock, w.heap[r]? = some (.map es clock) ∧ es.toList.map (fun x => (x.key, x.val)) = m.map (fun p => (kv p.1, p.2)) ∧ ∀ x ∈ es.toList, x.born < clock := by
  obtain ⟨es, clock, h1, h2, h3⟩ := h
  exact ⟨es, clock, h1, h2, h3.1⟩
/-- a map with one more entry -/
theorem mp_push {κ : Type} [DecidableEq κ] {w : World} {r clock : Nat} {kv : κ → Value} {m : List (κ × Value)} {es : Array MapEntry} {q : κ} {v : Value} (hh : w.heap[r]? = some (.map (es.push ⟨kv q, v, clock⟩) (clock + 1))) (he : es.toList.map (fun x => (x.key, x.val)) = m.map (fun p => (kv p.1, p.2))) (hb : ∀ x ∈ es.toList, x.born < clock) (hd : (es.toList.map (·.born)).Nodup) (hn : getM m q = none) : Mp w r kv (putM m q v) := by
  refine ⟨_, _, hh, ?_, ?_, ?_⟩
  · rw [putM_new hn]
    simp [he]
  · intro x hx
    simp at hx
    rcases hx with hx | rfl
    · have := hb x (by simpa using hx); omega
    · simp
  · rw [Array.toList_push, List.map_append, List.nodup_append]
    refine ⟨hd, by simp, fun a ha b hb' e => ?_⟩
    simp at hb'
    obtain ⟨x, hx, rfl⟩ := List.mem_map.1 ha
    have := hb x hx
    omega
/-- a result that lies in memory, and one in a slot -/
theorem ret_cell1 {P : Program} {n : Nat} {e : Env} {w : World} {F : Func} {S : Value → World → Prop} {a t u b : Nat} {xs : List Value} {v2 : Value} (hr : F.results = #[.cell a t, .tmp u]) (ha : ev n e (.tmp a) = .pointer (some ⟨b, 0, none⟩)) (ht : isAggB P t = true) (hs : szB P t xs.length = true)
    (hc : ∀ j v, xs[j]? = some v → w.cell? ⟨b, j, none⟩ = some v) (hu : ev n e (.tmp u) = v2) (h : S (.tuple #[.agg xs.toArray, v2]) w) : retR P F n S .ret e w := by
  refine ⟨.tuple #[.agg xs.toArray, v2], ?_, h⟩
  have hg : ∀ t, (act n e).tmps.getD t undef = ev n e (.tmp t) := fun t => by rw [← act_eval]; rfl
  have hl := run_loadCellsFrom (P := P) (w := w) (b := b) (o := 0) xs 0 #[] (fun j v hv => by rw [Nat.zero_add, Nat.zero_add]; exact hc j v hv)
  have hlv : (loadVar t ⟨b, 0, none⟩).run P w = .ok (.agg xs.toArray) w := by
    simp [loadVar, run_isAggT ht, run_sizeOf hs, loadCells, hl]
  have hm : (F.results.mapM (fun
      | .tmp t => pure ((act n e).tmps.getD t undef)
      | .cell a t => do loadVar t (← asAddr ((act n e).tmps.getD a undef)) : ResultVar → Sem Value)).run P w = .ok #[.agg xs.toArray, v2] w := by
    rw [hr]
    simp only [Array.mapM_eq_foldlM, ← Array.foldlM_toList, List.foldlM_cons, List.foldlM_nil, Sem.run_bind, Sem.run_map, Sem.run_pure, Result.andThen_ok, hg, ha, hu, asAddr, hlv]
    rfl
  have hres : (results F (act n e).tmps).run P w = ((F.results.mapM (fun
      | .tmp t => pure ((act n e).tmps.getD t undef)
      | .cell a t => do loadVar t (← asAddr ((act n e).tmps.getD a undef)) : ResultVar → Sem Value)).run P w).andThen
        (fun vs w' => (pure (if h : vs.size = 1 then vs[0] else .tuple vs) : Sem Value).run P w') := Sem.run_bind P w _ _
  rw [hres, hm, Result.andThen_ok, Sem.run_pure]
  simp
end E
end Go.Proofs.Ytbfphjhahgpndaa
