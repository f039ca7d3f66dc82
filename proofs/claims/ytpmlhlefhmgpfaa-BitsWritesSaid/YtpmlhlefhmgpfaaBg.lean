/- The questions of the laws BitsReads and BitsWrites, read off the arguments. No condition. -/
import Derived.Test.YtpmlhlefhmgpfaaBf
namespace Go.Proofs.Ytpmlhlefhmgpfaa
open Go.RowKit E
set_option linter.unusedVariables false
set_option linter.unusedSimpArgs false
set_option maxRecDepth 100000
attribute [local irreducible] ow qw kw kq cw opW Ret
theorem asks_of {H : Type} {enc : TypeId × Value → H} {W : World} {base : Nat} {v : Value} {d : DataW H} {p : List MemPlace} (hok : Value.okWide Try.prog W .any base 22 v) (h : DataW.Trod enc Try.prog W 0 (fun _ => true) true 22 v d p) :
    ∃ (a : Option Addr) (len cap : Nat) (css : List (List Value)), v = .slice a len cap ∧ css.length = len ∧ len ≤ 9223372036854775807 ∧ (∀ cs ∈ css, cs.length = 4) ∧ Rd W a css.flatten ∧ ∀ cs ∈ css, AskAt W cs := by
  obtain ⟨a, len, cap, css, rfl, h1, h2, h3, h4, h5, h6⟩ := op_elems (P := Try.prog) (sz := 4) Try.underlying22 (by kernel_rfl) (by decide) hok h
  refine ⟨a, len, cap, css, rfl, h1, by omega, h4, h5, fun cs hcs => ?_⟩
  have ht := h6 cs hcs
  obtain ⟨k, e0, hk1, hk2⟩ := fld_int (P := Try.prog) (i := 0) ht Try.underlying33 rfl (by kernel_rfl) Try.underlying5
  obtain ⟨n, e1, hn1, hn2⟩ := fld_int (P := Try.prog) (i := 1) ht Try.underlying33 rfl (by kernel_rfl) Try.underlying3
  obtain ⟨x, e2, hx1, hx2⟩ := fld_int (P := Try.prog) (i := 2) ht Try.underlying33 rfl (by kernel_rfl) Try.underlying3
  obtain ⟨a', len', cap', zs, e3, hrow⟩ := fld_row (P := Try.prog) (i := 3) ht Try.underlying33 rfl (by kernel_rfl) Try.underlying25 Try.underlying5 (by kernel_rfl)
  obtain ⟨l, hl, hl2, hl3, hR⟩ := row_u8 hrow
  have hl4 := h4 cs hcs
  match cs, hl4, e0, e1, e2, e3 with
  | [v0, v1, v2, v3], _, e0, e1, e2, e3 =>
    obtain rfl := Option.some.inj e0
    obtain rfl := Option.some.inj e1
    obtain rfl := Option.some.inj e2
    obtain rfl := Option.some.inj e3
    simp only [IntKind.min, IntKind.max, IntKind.signed, IntKind.bits] at hk1 hk2 hn1 hn2 hx1 hx2
    simp at hk1 hk2 hn1 hn2 hx1 hx2
    refine ⟨BitVec.ofInt 8 k, n, x, a', cap', l, ?_, ⟨by omega, by omega⟩, ⟨by omega, by omega⟩, hR, by omega⟩
    rw [hl, show ((BitVec.ofInt 8 k).toNat : Int) = k by rw [BitVec.toNat_ofInt]; omega]
end Go.Proofs.Ytpmlhlefhmgpfaa
