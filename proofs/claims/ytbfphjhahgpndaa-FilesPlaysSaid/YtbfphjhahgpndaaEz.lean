/- append(s, make([]T, n)...): noughts behind a slice that owns its block. No condition. -/
import Derived.Test.YtbfphjhahgpndaaEx
namespace Go.Proofs.Ytbfphjhahgpndaa
open Go.RowKit
set_option linter.unusedVariables false
set_option linter.unusedSimpArgs false
namespace E
variable {P : Program} {n : Nat} {e : Env} {w : World} {l0 l : List Oper} {K : Env → World → Prop} {d : Nat} {T : TypeId} {pos : String} {af : Array Edge} {op : Op} {x y : Operand} {TX TY : TypeId}

theorem run_ext_grow (t u ty e : TypeId) (i : TypeInfo) (z : Value) (ht : P.underlying t = some (.slice e)) (hu : P.underlying u = some (.int .i64)) (hi : P.info? e = some i) (hz : i.zero = some z)
    (b : Addr) (sLen sCap : Nat) (olds : List Value) (hlo : olds.length = sLen * i.size) (holds : ∀ j v, olds[j]? = some v → w.cell? (b.add j) = some v)
    (n : Nat) (hs : i.size = 1) (hn0 : 0 < n)
    (hg : sCap < sLen + n) (h63 : ((sLen + n : Nat) : Int) ≤ 9223372036854775807) (hb : (n : Int) * i.bytes ≤ 281474976710656) (hfit : Builtin.nextslicecap (sLen + n) sCap * i.bytes ≤ 281474976710656) :
    (Builtin.append_ #[t, u] ty #[.slice (some b) sLen sCap, .int .i64 (n : Int)]).run P w =
      .ok (.slice (some ⟨w.heap.size, 0, none⟩) (sLen + n) (grownCap w (sLen + n) sCap e))
        (w.drew.alloc (.cells (olds.toArray ++ Builtin.zeroCells z.cells n ++ Builtin.zeroCells z.cells (grownCap w (sLen + n) sCap e - (sLen + n))) e)) := by
  have hn : ¬ (sLen + n ≤ sCap) := by omega
  have h63' : ¬ (9223372036854775807 < ((sLen : Int) + (n : Int))) := by omega
  have h48' : ¬ (281474976710656 < Builtin.nextslicecap (sLen + n) sCap * i.bytes) := by omega
  have hw : IntKind.i64.wrap (n : Int) = n := IntWalk.i64_in _ (by omega)
  have hneg : ¬ ((n : Int) < 0) := by omega
  have hb' : ¬ (281474976710656 < (n : Int) * i.bytes) := by omega
  have hnz : ¬ (n = 0) := by omega
  have hfo := run_firstCells_some (P := P) w.drew i.size sLen b sLen sCap olds hlo (by simpa using holds)
  rw [hs] at hfo
  simp [Builtin.append_, run_underlying ht, run_underlying hu, asInt, asIntOf, hw, hneg, hb', sizeOf, typeInfo, zeroValue, hi, hz, hn, h63', h48', Question.forced, hfo, newRow, grownCap, hs, hnz]
theorem run_ext_room (t u ty e : TypeId) (i : TypeInfo) (z : Value) (ht : P.underlying t = some (.slice e)) (hu : P.underlying u = some (.int .i64)) (hi : P.info? e = some i) (hz : i.zero = some z)
    (g sLen sCap n : Nat) (cur : Array Value) (hg : w.heap[g]? = some (.cells cur e (0, 0))) (hs : i.size = 1) (hn0 : 0 < n) (hroom : sLen + n ≤ sCap) (h63 : (n : Int) ≤ 9223372036854775807) (hb : (n : Int) * i.bytes ≤ 281474976710656)
    (h1 : ∀ u ∈ (Builtin.zeroCells z.cells n).toList, u.oneCell' = true) (hfit : sLen + (Builtin.zeroCells z.cells n).toList.length ≤ cur.size) :
    (Builtin.append_ #[t, u] ty #[.slice (some ⟨g, 0, none⟩) sLen sCap, .int .i64 (n : Int)]).run P w = .ok (.slice (some ⟨g, 0, none⟩) (sLen + n) sCap) (w.setRow g (cur.toList.take sLen ++ (Builtin.zeroCells z.cells n).toList ++ cur.toList.drop (sLen + (Builtin.zeroCells z.cells n).toList.length)).toArray) := by
  have hst := run_storeCells_at P g sLen e (Builtin.zeroCells z.cells n).toList 0 cur w hg (by simpa using hfit) h1
  simp only [Nat.add_zero] at hst
  have hw : IntKind.i64.wrap (n : Int) = n := IntWalk.i64_in _ (by omega)
  have hneg : ¬ ((n : Int) < 0) := by omega
  have hb' : ¬ (281474976710656 < (n : Int) * i.bytes) := by omega
  have hnz : ¬ (n = 0) := by omega
  simp [Builtin.append_, run_underlying ht, run_underlying hu, asInt, asIntOf, hw, hneg, hb', sizeOf, typeInfo, zeroValue, hi, hz, hroom, hs, hnz, Addr.add_lit, hst]
theorem zeros_one (z : Value) (k : Nat) : (Builtin.zeroCells #[z] k).toList = List.replicate k z := by
  apply List.ext_getElem
  · simp [Builtin.zeroCells]
  · intro i h1 h2
    simp [Builtin.zeroCells]
    rw [Nat.mod_one]; rfl
/-- append(s, make([]T, k)...) on a slice that has a block of its own; elements of one cell -/
theorem o_ext {E : TypeId} {bytes : Nat} {z : Value} (hu : P.underlying TX = some (.slice E)) (hty : P.underlying TY = some (.int .i64)) (hi : infB P E 1 bytes z) (hzc : z.cells = #[z]) (hz1 : z.oneCell' = true)
    {a : Addr} {m c k : Nat} {xs : List Value} (hx : ev n e x = .slice (some a) m c) (hy : ev n e y = .int .i64 (k : Int)) (ho : Sl w E 1 (some a) m c xs)
    (h63 : m + k ≤ maxLen) (hby : (m + k) * bytes ≤ 140737488355328)
    (h : ∀ a2 c2 w', Sl w' E 1 a2 (m + k) c2 (xs ++ List.replicate k z) → Keep [a.block] w w' → ((a2 = some a ∧ w'.heap.size = w.heap.size) ∨ (∃ g, a2 = some ⟨g, 0, none⟩ ∧ w.heap.size = g ∧ w'.heap.size = g + 1)) → ow P n l0 K l (upd e d (.slice a2 (m + k) c2)) w') :
    ow P n l0 K (⟨some d, .call ⟨.builtin .append, #[x, y], #[TX, TY]⟩, T, pos, af, none⟩ :: l) e w := by
  obtain ⟨i, hi1, hsz, rfl, hz⟩ := hi
  have hsmall : m + k ≤ 9223372036854775807 := by simp only [maxLen] at h63; omega
  have hkb : (k : Int) * i.bytes ≤ 281474976710656 := by
    have h1 : k * i.bytes ≤ (m + k) * i.bytes := Nat.mul_le_mul_right _ (by omega)
    have h2 : ((k * i.bytes : Nat) : Int) ≤ 281474976710656 := by omega
    rwa [Int.natCast_mul] at h2
  rcases ho.2 with ⟨h0, _⟩ | ⟨g, cur, hga, hb, hle, hcap, hcs, htake⟩
  · simp at h0
  obtain rfl : a = ⟨g, 0, none⟩ := by simpa using hga
  have hlen : (xs ++ List.replicate k z).length = m + k := by simp [ho.1]
  by_cases hk : k = 0
  · subst hk
    refine o_run (v := .slice (some ⟨g, 0, none⟩) (m + 0) c) (w' := w) ?_ (h _ _ _ (by simpa using ho) (Keep.refl _ _) (.inl ⟨rfl, rfl⟩))
    have hw : IntKind.i64.wrap 0 = 0 := by decide
    simp [execOp, resolve, invoke, builtin, hx, hy, Builtin.append_, run_underlying hu, run_underlying hty, asInt, asIntOf, hw, sizeOf, typeInfo, hi1, hle, storeCells]
  · by_cases hroom : m + k ≤ c
    · have hr := run_ext_room (P := P) (w := w) TX TY T E i z hu hty hi1 hz g m c k cur hb hsz (by omega) hroom (by omega) hkb (by rw [hzc, zeros_one]; intro u hu'; rw [(List.mem_replicate.1 hu').2]; exact hz1) (by rw [hzc, zeros_one]; simp; omega)
      rw [hzc, zeros_one] at hr
      refine o_run (v := .slice (some ⟨g, 0, none⟩) (m + k) c) (w' := _) (by simp [execOp, resolve, invoke, builtin, hx, hy, hr]; rfl) (h _ _ _ ⟨by rw [hlen, Nat.mul_one], .inr ⟨g, _, rfl, setRow_heap w g cur _ E _ hb, hroom, hcap, ?_, ?_⟩⟩ ⟨rfl, rfl, rfl, by simp, fun j _ hj => setRow_other w g j _ (by simpa using hj)⟩ (.inl ⟨rfl, by simp⟩))
      · simp only [List.size_toArray, List.length_append, List.length_take, List.length_drop, Array.length_toList, List.length_replicate]
        omega
      · rw [Nat.mul_one] at htake
        rw [htake, Nat.mul_one, ← hlen]
        simp only [← List.append_assoc]
        exact List.take_left
    · have holds : ∀ j u, xs[j]? = some u → w.cell? ((⟨g, 0, none⟩ : Addr).add j) = some u := by
        intro j u hj
        obtain ⟨b2, o2, he, hc⟩ := ho.rd j u hj
        simp at he
        obtain ⟨rfl, rfl⟩ := he
        rw [Addr.add_lit]
        exact hc
      have hge := grownCap_ge w (m + k) c E
      have hcm := grownCap_le_maxLen w (m + k) c E h63
      have hr := run_ext_grow (P := P) (w := w) TX TY T E i z hu hty hi1 hz ⟨g, 0, none⟩ m c xs (by rw [hsz]; exact ho.1) holds k hsz (by omega) (by omega) (by omega) hkb (growslice_fits (by omega) hby)
      refine o_run (v := .slice (some ⟨w.heap.size, 0, none⟩) (m + k) (grownCap w (m + k) c E)) (w' := _) (by simp [execOp, resolve, invoke, builtin, hx, hy, hr]; rfl) (h _ _ _ ⟨by rw [hlen, Nat.mul_one], .inr ⟨w.heap.size, _, rfl, heap_alloc_new w.drew _, hge, hcm, ?_, ?_⟩⟩ ⟨rfl, rfl, rfl, by simp, fun j hj _ => Below.heap_alloc w.drew _ j hj⟩ (.inr ⟨_, rfl, rfl, by simp⟩))
      · have := ho.1
        simp [size_zeroCells, hzc]
        omega
      · simp only [Array.toList_append, hzc, zeros_one, Nat.mul_one]
        rw [← hlen, ← List.append_assoc]
        exact List.take_left
end E
end Go.Proofs.Ytbfphjhahgpndaa
