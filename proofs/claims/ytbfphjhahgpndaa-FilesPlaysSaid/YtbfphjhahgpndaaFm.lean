/- Files: what the program's files and the document's have to do with each other, in plain terms; the acts. No condition beyond what each lemma names. -/
import Derived.Test.YtbfphjhahgpndaaFl
namespace Go.Proofs.Ytbfphjhahgpndaa
open Go.RowKit E
set_option linter.unusedVariables false
set_option linter.unusedSimpArgs false
set_option maxRecDepth 100000
attribute [local irreducible] ow qw kw kq cw opW Ret
open Go.Maps Go.Sort
structure Rel (fs gs : FS) (n : Nat) (F : Int → Bool) (Fl : List Int) (k : Nat) : Prop where
  get : ∀ t, getF fs t = getF gs t
  perm : (fs.map (·.1)).Perm (gs.map (·.1))
  nd : (fs.map (·.1)).Nodup
  rise : (gs.map fun p => bsL p.1).Pairwise (· < ·)
  sz : ∀ s ∈ fs.map (·.1), s.size ≤ 64
  len : fs.length ≤ 16
  nk : n ≤ k
  fk : Fl.length ≤ k
  fl : ∀ i : Int, (n : Int) < i → F i = decide (i ∈ Fl)
theorem Rel.up {fs gs : FS} {n k k' : Nat} {F : Int → Bool} {Fl : List Int} (h : Rel fs gs n F Fl k) (hk : k ≤ k') : Rel fs gs n F Fl k' :=
  ⟨h.get, h.perm, h.nd, h.rise, h.sz, h.len, Nat.le_trans h.nk hk, Nat.le_trans h.fk hk, h.fl⟩
theorem Rel.start : Rel [] [] 0 (fun _ => false) [] 0 := ⟨fun _ => rfl, .refl _, by simp, by simp, by simp, by simp, by simp, by simp, fun _ _ => by simp⟩
theorem Rel.leng {fs gs : FS} {n k : Nat} {F : Int → Bool} {Fl : List Int} (h : Rel fs gs n F Fl k) : fs.length = gs.length := by
  have := h.perm.length_eq
  simpa using this
theorem Rel.putE {fs gs : FS} {n k : Nat} {F : Int → Bool} {Fl : List Int} (h : Rel fs gs n F Fl k) (s : ByteArray) (m : Nat) : putE fs s m = putE gs s m := by
  unfold Ytbfphjhahgpndaa.putE
  rw [h.get, h.leng]
theorem getF_mem : ∀ {gs : FS} {s : ByteArray}, getF gs s = none ↔ s ∉ gs.map (·.1)
  | [], s => by simp [getF]
  | p :: gs, s => by
    unfold getF
    by_cases h : s = p.1
    · rw [if_pos h]; simp [h]
    · rw [if_neg h, getF_mem (gs := gs)]; simp [h]
theorem putF_keys1 : ∀ (gs : FS) (s : ByteArray) (b : List (BitVec 8)), s ∈ gs.map (·.1) → (putF gs s b).map (·.1) = gs.map (·.1)
  | [], s, b, hs => by simp at hs
  | p :: gs, s, b, hs => by
    unfold putF
    by_cases h : s = p.1
    · rw [if_pos h, List.map_cons, List.map_cons, h]
    · rw [if_neg h, List.map_cons, List.map_cons, putF_keys1 gs s b]
      rw [List.map_cons] at hs
      exact (List.mem_cons.1 hs).resolve_left h
theorem putF_keys2 : ∀ (gs : FS) (s : ByteArray) (b : List (BitVec 8)), s ∉ gs.map (·.1) → (putF gs s b).map (·.1) = gs.map (·.1) ++ [s]
  | [], s, b, hs => by simp [putF]
  | p :: gs, s, b, hs => by
    rw [List.map_cons] at hs
    unfold putF
    rw [if_neg (fun h => hs (by rw [h]; exact List.mem_cons_self)), List.map_cons, List.map_cons, putF_keys2 gs s b (fun hm => hs (List.mem_cons_of_mem _ hm))]
    rfl
theorem insF_cons (p : ByteArray × List (BitVec 8)) (l : FS) (s : ByteArray) (b : List (BitVec 8)) : insF (p :: l) s b = if bsL s < bsL p.1 then (s, b) :: p :: l else p :: insF l s b := by
  by_cases h : bsL s < bsL p.1
  · rw [if_pos h]; exact insF_here (p :: l) s b 0 p rfl h
  · rw [if_neg h]; exact insF_app (p :: l) s b 0 p rfl h
theorem insF_perm : ∀ (gs : FS) (s : ByteArray) (b : List (BitVec 8)), (insF gs s b).Perm ((s, b) :: gs)
  | [], s, b => by rw [insF_nil]
  | p :: gs, s, b => by
    rw [insF_cons]
    split
    · exact .refl _
    · exact ((insF_perm gs s b).cons p).trans (.swap _ _ _)
theorem getF_ins : ∀ (gs : FS) (s t : ByteArray) (b : List (BitVec 8)), s ∉ gs.map (·.1) → getF (insF gs s b) t = if t = s then some b else getF gs t
  | [], s, t, b, _ => by rw [insF_nil]; rfl
  | p :: gs, s, t, b, h => by
    rw [List.map_cons] at h
    have h1 : s ≠ p.1 := fun e => h (by rw [e]; exact List.mem_cons_self)
    have h2 : s ∉ gs.map (·.1) := fun hm => h (List.mem_cons_of_mem _ hm)
    rw [insF_cons]
    by_cases hl : bsL s < bsL p.1
    · rw [if_pos hl]; rfl
    · rw [if_neg hl]
      show (if t = p.1 then some p.2 else getF (insF gs s b) t) = if t = s then some b else (if t = p.1 then some p.2 else getF gs t)
      rw [getF_ins gs s t b h2]
      by_cases e : t = p.1
      · rw [if_pos e, if_pos e, if_neg (fun e2 => h1 (e2.symm.trans e))]
      · rw [if_neg e, if_neg e]
theorem lt_tri {a b : List UInt8} (h1 : ¬ a < b) (h2 : a ≠ b) : b < a := by
  by_cases h3 : b < a
  · exact h3
  · exact absurd (List.le_antisymm (List.not_lt.1 h3) (List.not_lt.1 h1)) h2
theorem insF_rise : ∀ (gs : FS) (s : ByteArray) (b : List (BitVec 8)), s ∉ gs.map (·.1) → (gs.map fun p => bsL p.1).Pairwise (· < ·) → ((insF gs s b).map fun p => bsL p.1).Pairwise (· < ·)
  | [], s, b, _, _ => by rw [insF_nil]; simp
  | p :: gs, s, b, h, hr => by
    rw [List.map_cons] at h hr
    have h1 : s ≠ p.1 := fun e => h (by rw [e]; exact List.mem_cons_self)
    have h2 : s ∉ gs.map (·.1) := fun hm => h (List.mem_cons_of_mem _ hm)
    obtain ⟨hr1, hr2⟩ := List.pairwise_cons.1 hr
    rw [insF_cons]
    by_cases hl : bsL s < bsL p.1
    · rw [if_pos hl, List.map_cons, List.map_cons]
      refine List.pairwise_cons.2 ⟨fun y hy => ?_, hr⟩
      rcases List.mem_cons.1 hy with rfl | hy
      · exact hl
      · exact List.lt_trans hl (hr1 y hy)
    · rw [if_neg hl, List.map_cons]
      refine List.pairwise_cons.2 ⟨fun y hy => ?_, insF_rise gs s b h2 hr2⟩
      have hy2 := ((insF_perm gs s b).map fun p => bsL p.1).mem_iff.1 hy
      rw [List.map_cons] at hy2
      rcases List.mem_cons.1 hy2 with rfl | hy2
      · exact lt_tri hl (fun e => h1 (bsL_inj e))
      · exact hr1 y hy2
theorem idx_neg (gs : FS) (s : ByteArray) : idxF gs s < 0 ↔ s ∉ gs.map (·.1) := by
  rcases idx_cases gs s with ⟨k, b, h1, h2, h3⟩ | ⟨h1, h2⟩
  · refine ⟨fun h => by omega, fun h => absurd ?_ h⟩
    exact List.mem_map.2 ⟨(s, b), List.mem_of_getElem? h2, rfl⟩
  · refine ⟨fun _ hm => ?_, fun _ => by omega⟩
    obtain ⟨p, hp, he⟩ := List.mem_map.1 hm
    exact h2 p hp he
theorem Rel.put {fs gs : FS} {n k : Nat} {F : Int → Bool} {Fl : List Int} (h : Rel fs gs n F Fl k) (s : ByteArray) (b : List (BitVec 8)) (hz : Ytbfphjhahgpndaa.putE fs s b.length = 0) : Rel (putF fs s b) (rputF gs s b) n F Fl k := by
  have hn : nameOk s := by
    unfold Ytbfphjhahgpndaa.putE at hz
    by_cases hn : nameOk s
    · exact hn
    · rw [if_pos hn] at hz; cases hz
  have hmem : s ∈ fs.map (·.1) ↔ s ∈ gs.map (·.1) := h.perm.mem_iff
  by_cases hs : s ∈ gs.map (·.1)
  · have hrp : rputF gs s b = putF gs s b := by unfold rputF; rw [if_neg (fun hh => (idx_neg gs s).1 hh hs)]
    have k1 := putF_keys1 fs s b (hmem.2 hs)
    have k2 := putF_keys1 gs s b hs
    have k3 : (putF gs s b).map (fun p => bsL p.1) = gs.map (fun p => bsL p.1) := by
      have := congrArg (List.map bsL) k2
      rw [List.map_map, List.map_map] at this
      exact this
    rw [hrp]
    refine ⟨fun t => by rw [getF_put, getF_put, h.get], by rw [k1, k2]; exact h.perm, by rw [k1]; exact h.nd, by rw [k3]; exact h.rise, by rw [k1]; exact h.sz, ?_, h.nk, h.fk, h.fl⟩
    have := congrArg List.length k1
    rw [List.length_map, List.length_map] at this
    rw [this]; exact h.len
  · have hs' : s ∉ fs.map (·.1) := fun hm => hs (hmem.1 hm)
    have hrp : rputF gs s b = insF gs s b := by unfold rputF; rw [if_pos ((idx_neg gs s).2 hs)]
    have k1 := putF_keys2 fs s b hs'
    have hl : fs.length < 16 := by
      unfold Ytbfphjhahgpndaa.putE at hz
      rw [if_neg (fun hh => hh hn)] at hz
      by_cases h6 : 65536 < b.length
      · rw [if_pos h6] at hz; cases hz
      · rw [if_neg h6] at hz
        by_cases h7 : getF fs s = none ∧ 16 ≤ fs.length
        · rw [if_pos h7] at hz; cases hz
        · have := getF_mem.2 hs'
          by_cases h8 : 16 ≤ fs.length
          · exact absurd ⟨this, h8⟩ h7
          · omega
    rw [hrp]
    refine ⟨fun t => by rw [getF_put, getF_ins gs s t b hs, h.get], ?_, ?_, insF_rise gs s b hs h.rise, ?_, ?_, h.nk, h.fk, h.fl⟩
    · rw [k1]
      have h2 := (insF_perm gs s b).map (·.1)
      rw [List.map_cons] at h2
      exact (List.perm_append_comm.trans (h.perm.cons s)).trans h2.symm
    · rw [k1, List.nodup_append]
      exact ⟨h.nd, by simp, fun a ha c hc e => hs' (by simp at hc; rw [← hc, ← e]; exact ha)⟩
    · rw [k1]
      intro t ht
      rcases List.mem_append.1 ht with ht | ht
      · exact h.sz t ht
      · simp at ht; rw [ht]; exact hn.2.1
    · have := congrArg List.length k1
      rw [List.length_map, List.length_append, List.length_map] at this
      rw [this]; simp; omega
theorem Rel.size {fs gs : FS} {n k : Nat} {F : Int → Bool} {Fl : List Int} (h : Rel fs gs n F Fl k) (s : ByteArray) : szF fs s = szF gs s := by unfold szF; rw [h.get]
theorem Rel.fail {fs gs : FS} {n k : Nat} {F : Int → Bool} {Fl : List Int} (h : Rel fs gs n F Fl k) (x : Int) : Rel fs gs n (flF n F x) (if flE x = 0 then Fl ++ [(n : Int) + x] else Fl) (k + 1) := by
  have h' := h.up (Nat.le_succ k)
  unfold flF flE
  by_cases hx : x < 1 ∨ 65536 < x
  · rw [if_pos hx, if_pos hx, if_neg (by decide)]; exact h'
  · rw [if_neg hx, if_neg hx, if_pos rfl]
    refine ⟨h.get, h.perm, h.nd, h.rise, h.sz, h.len, h'.nk, by simp; exact h.fk, fun i hi => ?_⟩
    by_cases he : i = (n : Int) + x
    · simp [he]
    · simp [he, h.fl i hi]
theorem Rel.read {fs gs : FS} {n k : Nat} {F : Int → Bool} {Fl : List Int} (h : Rel fs gs n F Fl k) (s : ByteArray) (p q : Int) :
    ∃ xs y n' F1 F2, rdF fs n F s p q = (xs, y, n', F1) ∧ rdF gs n (fun i => decide (i ∈ Fl)) s p q = (xs, y, n', F2) ∧ Rel fs gs n' F1 Fl (k + 1) := by
  have h' := h.up (Nat.le_succ k)
  unfold rdF
  rw [h.get]
  by_cases hp : p < 0 ∨ q < 0
  · rw [if_pos hp, if_pos hp]; exact ⟨_, _, _, _, _, rfl, rfl, h'⟩
  · rw [if_neg hp, if_neg hp]
    cases hg : getF gs s with
    | none => exact ⟨_, _, _, _, _, rfl, rfl, h'⟩
    | some b =>
      simp only
      by_cases hl : (b.length : Int) < p ∨ (b.length : Int) - p < q
      · rw [if_pos hl, if_pos hl]; exact ⟨_, _, _, _, _, rfl, rfl, h'⟩
      · rw [if_neg hl, if_neg hl, h.fl _ (by omega)]
        by_cases hm : ((n : Int) + 1) ∈ Fl
        · rw [decide_eq_true hm, if_pos rfl, if_pos rfl]
          refine ⟨_, _, _, _, _, rfl, rfl, h.get, h.perm, h.nd, h.rise, h.sz, h.len, by have := h.nk; omega, h'.fk, fun i hi => ?_⟩
          rw [if_neg (by omega), h.fl i (by omega)]
        · rw [decide_eq_false hm, if_neg (by decide), if_neg (by decide)]
          exact ⟨_, _, _, _, _, rfl, rfl, h.get, h.perm, h.nd, h.rise, h.sz, h.len, by have := h.nk; omega, h'.fk, fun i hi => h.fl i (by omega)⟩
theorem Rel.names {fs gs : FS} {n k : Nat} {F : Int → Bool} {Fl : List Int} (h : Rel fs gs n F Fl k) : (fs.map fun p => bsL p.1).mergeSort leB = gs.map fun p => bsL p.1 := by
  have hp : (fs.map fun p => bsL p.1).Perm (gs.map fun p => bsL p.1) := by
    have := h.perm.map bsL
    rw [List.map_map, List.map_map] at this
    exact this
  rw [mergeSort_of_perm hp]
  refine List.mergeSort_of_pairwise (h.rise.imp (fun {a b} hab => ?_))
  simp only [leB, decide_eq_true_eq]
  exact List.le_of_lt hab
/-- an act in memory -/
def ActAt (W : World) (cs : List Value) : Prop := ∃ (k : BitVec 8) (s : ByteArray) (p q : Int) (a : Option Addr) (c : Nat) (bs : List (BitVec 8)), cs = [.int .u8 (k.toNat : Int), .string s, .slice a bs.length c, .int .i64 p, .int .i64 q] ∧ s.size ≤ 9223372036854775807 ∧ Rd W a (bs.map u8v)
theorem acts_of {H : Type} {enc : TypeId × Value → H} {W : World} {base : Nat} {v : Value} {d : DataW H} {p : List MemPlace} (hok : Value.okWide Try.prog W .any base 39 v) (h : DataW.Trod enc Try.prog W 0 (fun _ => true) true 39 v d p) :
    ∃ (a : Option Addr) (len cap : Nat) (css : List (List Value)), v = .slice a len cap ∧ css.length = len ∧ len ≤ 9223372036854775807 ∧ (∀ cs ∈ css, cs.length = 5) ∧ Rd W a css.flatten ∧ ∀ cs ∈ css, ActAt W cs := by
  obtain ⟨a, len, cap, css, rfl, h1, h2, h3, h4, h5, h6⟩ := op_elems (P := Try.prog) (sz := 5) Try.underlying39 (by kernel_rfl) (by decide) hok h
  refine ⟨a, len, cap, css, rfl, h1, by omega, h4, h5, fun cs hcs => ?_⟩
  have ht := h6 cs hcs
  obtain ⟨k, e0, hk1, hk2⟩ := fld_int (P := Try.prog) (i := 0) ht Try.underlying46 rfl (by kernel_rfl) Try.underlying5
  obtain ⟨s, e1, hs⟩ := fld_str (P := Try.prog) (i := 1) ht Try.underlying46 rfl (by kernel_rfl) Try.underlying9
  obtain ⟨a', len', cap', zs, e2, hrow⟩ := fld_row (P := Try.prog) (i := 2) ht Try.underlying46 rfl (by kernel_rfl) Try.underlying22 Try.underlying5 (by kernel_rfl)
  obtain ⟨n, e3, hn1, hn2⟩ := fld_int (P := Try.prog) (i := 3) ht Try.underlying46 rfl (by kernel_rfl) Try.underlying3
  obtain ⟨x, e4, hx1, hx2⟩ := fld_int (P := Try.prog) (i := 4) ht Try.underlying46 rfl (by kernel_rfl) Try.underlying3
  obtain ⟨l, hl, hl2, hl3, hR⟩ := row_u8 hrow
  have hl4 := h4 cs hcs
  match cs, hl4, e0, e1, e2, e3, e4 with
  | [v0, v1, v2, v3, v4], _, e0, e1, e2, e3, e4 =>
    obtain rfl := Option.some.inj e0
    obtain rfl := Option.some.inj e1
    obtain rfl := Option.some.inj e2
    obtain rfl := Option.some.inj e3
    obtain rfl := Option.some.inj e4
    simp only [IntKind.min, IntKind.max, IntKind.signed, IntKind.bits] at hk1 hk2
    simp at hk1 hk2
    refine ⟨BitVec.ofInt 8 k, s, n, x, a', cap', l, ?_, by simpa [maxLen] using hs, hR⟩
    rw [hl, show ((BitVec.ofInt 8 k).toNat : Int) = k by rw [BitVec.toNat_ofInt]; omega]
end Go.Proofs.Ytbfphjhahgpndaa
