/- From what the frame of a law is told of its arguments to what the walks ask; from a walk to the frame's own form. No condition. -/
import Derived.Test.YtbfphjhahgpndaaAny
import Derived.ProofKit
import Derived.OpenShut
import Derived.ShutString
import Derived.ChangeOld
import Derived.SizedLaws
namespace Go.Proofs.Ytbfphjhahgpndaa
open Go.RowKit
set_option linter.unusedVariables false
set_option linter.unusedSimpArgs false
namespace E

/-- a law's walk in the frame's form -/
theorem law_calls {P : Program} {f : FuncId} {args : List Value} {w : World} (h : Ret P f args w (fun v w' => v = .bool true ∧ Keep [] w w')) :
    Calls P f args.toArray w (fun e w' => e = .returned (.bool true) ∧ Below w.heap.size w w') :=
  Calls.mono h.calls fun e w' ⟨v, he, hv, hk⟩ => ⟨by rw [he, hv], hk.below⟩

/-- the frame's word on a slice of integers -/
def Row (k : IntKind) (w : World) (a : Option Addr) (len cap : Nat) (zs : List Int) : Prop :=
  (a = none ∧ len = 0 ∧ cap = 0 ∧ zs = []) ∨
  ∃ x, a = some x ∧ len ≤ cap ∧ cap ≤ maxLen ∧ zs.length = cap ∧ (∀ i, i < zs.length → w.cell? (x.add i) = some (.int k (zs.getD i 0))) ∧ ∀ n ∈ zs, (Lit.int k n).wf = true

theorem spot_none {w : World} {p : Addr} {v : Value} (h : w.cell? p = some v) : p.spot = none := by
  unfold World.cell? at h
  split at h
  · split at h
    · cases h
    · rename_i hs
      cases hp : p.spot with
      | none => rfl
      | some _ => rw [hp] at hs; simp at hs
  · cases h

theorem row_cells {k : IntKind} {w : World} {a : Option Addr} {len cap : Nat} {zs : List Int} (h : Row k w a len cap zs) :
    (zs.take len).length = len ∧ len ≤ cap ∧ cap ≤ 9223372036854775807 ∧ Rd w a ((zs.take len).map (Value.int k)) ∧ ∀ z ∈ zs.take len, (Lit.int k z).wf = true := by
  rcases h with ⟨rfl, rfl, rfl, rfl⟩ | ⟨x, rfl, hl, hm, hz, hc, hw⟩
  · exact ⟨rfl, Nat.le_refl _, by omega, Rd.nil _ _, by simp⟩
  · refine ⟨by rw [List.length_take]; omega, hl, by simpa [maxLen] using hm, ?_, fun z hz => hw z (List.mem_of_mem_take hz)⟩
    intro i v hv
    rw [List.getElem?_map, List.getElem?_take] at hv
    by_cases hi : i < len
    · rw [if_pos hi, List.getElem?_eq_getElem (by omega)] at hv
      simp at hv
      have h0 := hc 0 (by omega)
      have hsp : x.spot = none := spot_none (by rw [show x.add 0 = x from by simp [Addr.add]] at h0; exact h0)
      obtain ⟨b, o, sp⟩ := x
      simp at hsp
      subst hsp
      refine ⟨b, o, rfl, ?_⟩
      have hci := hc i (by omega)
      rw [Addr.add_lit] at hci
      rw [hci, ← hv]
      simp [show i < zs.length by omega]
    · rw [if_neg hi] at hv
      simp at hv

def u8v (b : BitVec 8) : Value := .int .u8 (b.toNat : Int)
theorem row_u8 {w : World} {a : Option Addr} {len cap : Nat} {zs : List Int} (h : Row .u8 w a len cap zs) :
    ∃ l : List (BitVec 8), l.length = len ∧ len ≤ cap ∧ cap ≤ 9223372036854775807 ∧ Rd w a (l.map u8v) := by
  obtain ⟨h1, h2, h3, h4, h5⟩ := row_cells h
  refine ⟨(zs.take len).map (BitVec.ofInt 8), by rw [List.length_map]; exact h1, h2, h3, ?_⟩
  have he : ((zs.take len).map (BitVec.ofInt 8)).map u8v = (zs.take len).map (Value.int .u8) := by
    rw [List.map_map]
    apply List.map_congr_left
    intro z hz
    have hw := h5 z hz
    simp only [Function.comp, u8v, BitVec.toNat_ofInt]
    have : 0 ≤ z ∧ z < 256 := by
      simp [Lit.wf, IntKind.min, IntKind.max, IntKind.signed, IntKind.bits] at hw
      omega
    congr 1
    omega
  rw [he]
  exact h4

def u16v (b : BitVec 16) : Value := .int .u16 (b.toNat : Int)
theorem row_u16 {w : World} {a : Option Addr} {len cap : Nat} {zs : List Int} (h : Row .u16 w a len cap zs) :
    ∃ l : List (BitVec 16), l.length = len ∧ len ≤ cap ∧ cap ≤ 9223372036854775807 ∧ Rd w a (l.map u16v) := by
  obtain ⟨h1, h2, h3, h4, h5⟩ := row_cells h
  refine ⟨(zs.take len).map (BitVec.ofInt 16), by rw [List.length_map]; exact h1, h2, h3, ?_⟩
  have he : ((zs.take len).map (BitVec.ofInt 16)).map u16v = (zs.take len).map (Value.int .u16) := by
    rw [List.map_map]
    apply List.map_congr_left
    intro z hz
    have hw := h5 z hz
    simp only [Function.comp, u16v, BitVec.toNat_ofInt]
    have : 0 ≤ z ∧ z < 65536 := by
      simp [Lit.wf, IntKind.min, IntKind.max, IntKind.signed, IntKind.bits] at hw
      omega
    congr 1
    omega
  rw [he]
  exact h4

def u32v (b : BitVec 32) : Value := .int .u32 (b.toNat : Int)
theorem row_u32 {w : World} {a : Option Addr} {len cap : Nat} {zs : List Int} (h : Row .u32 w a len cap zs) :
    ∃ l : List (BitVec 32), l.length = len ∧ len ≤ cap ∧ cap ≤ 9223372036854775807 ∧ Rd w a (l.map u32v) := by
  obtain ⟨h1, h2, h3, h4, h5⟩ := row_cells h
  refine ⟨(zs.take len).map (BitVec.ofInt 32), by rw [List.length_map]; exact h1, h2, h3, ?_⟩
  have he : ((zs.take len).map (BitVec.ofInt 32)).map u32v = (zs.take len).map (Value.int .u32) := by
    rw [List.map_map]
    apply List.map_congr_left
    intro z hz
    have hw := h5 z hz
    simp only [Function.comp, u32v, BitVec.toNat_ofInt]
    have : 0 ≤ z ∧ z < 4294967296 := by
      simp [Lit.wf, IntKind.min, IntKind.max, IntKind.signed, IntKind.bits] at hw
      omega
    congr 1
    omega
  rw [he]
  exact h4

def u64v (b : BitVec 64) : Value := .int .u64 (b.toNat : Int)
theorem row_u64 {w : World} {a : Option Addr} {len cap : Nat} {zs : List Int} (h : Row .u64 w a len cap zs) :
    ∃ l : List (BitVec 64), l.length = len ∧ len ≤ cap ∧ cap ≤ 9223372036854775807 ∧ Rd w a (l.map u64v) := by
  obtain ⟨h1, h2, h3, h4, h5⟩ := row_cells h
  refine ⟨(zs.take len).map (BitVec.ofInt 64), by rw [List.length_map]; exact h1, h2, h3, ?_⟩
  have he : ((zs.take len).map (BitVec.ofInt 64)).map u64v = (zs.take len).map (Value.int .u64) := by
    rw [List.map_map]
    apply List.map_congr_left
    intro z hz
    have hw := h5 z hz
    simp only [Function.comp, u64v, BitVec.toNat_ofInt]
    have : 0 ≤ z ∧ z < 18446744073709551616 := by
      simp [Lit.wf, IntKind.min, IntKind.max, IntKind.signed, IntKind.bits] at hw
      omega
    congr 1
    omega
  rw [he]
  exact h4

theorem row_i64 {w : World} {a : Option Addr} {len cap : Nat} {zs : List Int} (h : Row .i64 w a len cap zs) :
    ∃ l : List Int, l.length = len ∧ len ≤ cap ∧ cap ≤ 9223372036854775807 ∧ Rd w a (l.map (Value.int .i64)) ∧ ∀ z ∈ l, -9223372036854775808 ≤ z ∧ z ≤ 9223372036854775807 := by
  obtain ⟨h1, h2, h3, h4, h5⟩ := row_cells h
  refine ⟨zs.take len, h1, h2, h3, h4, fun z hz => ?_⟩
  have hw := h5 z hz
  simp [Lit.wf, IntKind.min, IntKind.max, IntKind.signed, IntKind.bits] at hw
  omega

/-! ### arguments opened -/
section
variable {H : Type} {enc : TypeId × Value → H} {P : Program} {W : World} {base : Nat}

theorem op_lt {t : TypeId} {v : Value} {d : DataW H} {p : List MemPlace} (h : DataW.Trod enc P W 0 (fun _ => true) true t v d p) : ∀ x ∈ p, x.block < W.heap.size := by
  obtain ⟨m, hm⟩ := h
  exact DataW.trod_lt m _ _ _ hm

theorem op_int {t : TypeId} {k : IntKind} {v : Value} {d : DataW H} {p : List MemPlace} (ht : P.underlying t = some (.int k)) (hok : Value.okWide P W .any base t v) (h : DataW.Trod enc P W 0 (fun _ => true) true t v d p) :
    ∃ a, v = .int k a ∧ k.min ≤ a ∧ a ≤ k.max := by
  obtain ⟨a, h1, _, _, hw⟩ := ChangeShapes.open_int ht hok h
  simp only [Lit.wf, Bool.and_eq_true, decide_eq_true_eq] at hw
  exact ⟨a, h1, hw⟩

theorem op_bool {t : TypeId} {v : Value} {d : DataW H} {p : List MemPlace} (ht : P.underlying t = some .bool) (hok : Value.okWide P W .any base t v) (h : DataW.Trod enc P W 0 (fun _ => true) true t v d p) :
    ∃ a, v = .bool a := by
  obtain ⟨a, h1, _⟩ := RowKit.open_bool ht hok h
  exact ⟨a, h1⟩

theorem op_row {t e : TypeId} {k : IntKind} {v : Value} {d : DataW H} {p : List MemPlace} (ht : P.underlying t = some (.slice e)) (he : P.underlying e = some (.int k)) (hc : P.cellsOf e = 1) (hok : Value.okWide P W .any base t v) (h : DataW.Trod enc P W 0 (fun _ => true) true t v d p)
    (hsz : ∀ elems spare, d = .slice elems spare → (elems.length + spare.length) * P.bytesOf e ≤ reachBytes) :
    ∃ a len cap zs, v = .slice a len cap ∧ Row k W a len cap zs ∧ cap * P.bytesOf e ≤ 140737488351232 := by
  obtain ⟨a, len, cap, rfl⟩ := WideShapes.okWide_slice ht hok
  obtain ⟨fuel, hf⟩ := h
  rcases ChangeShapes.open_ints ht he hc hf with ⟨hcs, _⟩ | ⟨x, l, c, zs, hcs, _, hl, hm, hz, hx, hcell, hwz⟩
  · simp [Value.cells] at hcs
    obtain ⟨rfl, rfl, rfl⟩ := hcs
    exact ⟨none, 0, 0, [], rfl, .inl ⟨rfl, rfl, rfl, rfl⟩, by omega⟩
  · simp [Value.cells] at hcs
    obtain ⟨rfl, rfl, rfl⟩ := hcs
    have hz' : zs.length = cap := by simpa using hz
    refine ⟨_, len, cap, zs, rfl, .inr ⟨_, rfl, hl, hm, hz', hcell, hwz⟩, ?_⟩
    have := hsz _ _ (congrArg Prod.fst hx)
    simp only [ChangeShapes.lits, List.length_map, List.length_take, List.length_drop, reachBytes] at this
    have e1 : min len zs.length + (zs.length - len) = cap := by omega
    rw [e1] at this
    exact this

theorem op_arr {t e : TypeId} {k : IntKind} {n : Nat} {v : Value} {d : DataW H} {p : List MemPlace} (ht : P.underlying t = some (.array n e)) (he : P.underlying e = some (.int k)) (hc : P.cellsOf e = 1) (hct : P.cellsOf t = n) (hok : Value.okWide P W .any base t v) (h : DataW.Trod enc P W 0 (fun _ => true) true t v d p) :
    ∃ zs : List Int, v = .agg (zs.map (Value.int k)).toArray ∧ zs.length = n ∧ ∀ z ∈ zs, k.min ≤ z ∧ z ≤ k.max := by
  simp only [Value.okWide, ht] at hok
  obtain ⟨cs, rfl, hsz, _⟩ := hok
  obtain ⟨fuel, hf⟩ := h
  obtain ⟨xs, m, _, _, hlen, hxl, hel⟩ := DataW.trod_array ht hf
  have hcl : cs.toList.length = n := by
    rw [Array.length_toList, hsz, hct]
  have each : ∀ i (hi : i < n), ∃ z, cs.toList[i]'(by omega) = .int k z ∧ k.min ≤ z ∧ z ≤ k.max := by
    intro i hi
    have h1 := hel i hi
    rw [hc, Nat.mul_one] at h1
    have h2 : ((Value.agg cs).cells.toList.drop i).take 1 = [cs.toList[i]'(by omega)] := by
      show (cs.toList.drop i).take 1 = _
      rw [List.drop_eq_getElem_cons (by omega)]
      rfl
    rw [h2] at h1
    cases hx : xs[i]? with
    | none => have := List.getElem?_eq_none_iff.1 hx; omega
    | some y =>
      rw [hx] at h1
      obtain ⟨a, e0, _, wa⟩ := DataW.trod_int he h1
      simp at e0
      refine ⟨a, by simpa using e0, ?_⟩
      simp only [Lit.wf, Bool.and_eq_true, decide_eq_true_eq] at wa
      exact wa
  refine ⟨List.ofFn (n := n) fun i => Classical.choose (each i.val i.isLt), ?_, by simp, ?_⟩
  · congr 1
    apply Array.ext
    · simp [hsz, hct]
    · intro i h1 h2
      have hi : i < n := by simpa using h2
      have := (Classical.choose_spec (each i hi)).1
      simpa using this
  · intro z hz
    obtain ⟨i, rfl⟩ := List.mem_ofFn.1 hz
    exact (Classical.choose_spec (each i.val i.isLt)).2

end

end E
end Go.Proofs.Ytbfphjhahgpndaa
