/- More rules of the engine: an operation whose guard waits for one that was left out is left out too. No condition. -/
import Derived.Test.YtbfphjhahgpndaaAny
namespace Go.Proofs.Ytbfphjhahgpndaa
open Go.RowKit
set_option linter.unusedVariables false
set_option linter.unusedSimpArgs false
namespace E

variable {P : Program} {n : Nat} {K : Env → World → Prop} {l l0 : List Oper} {e : Env} {w : World} {d : Option Nat} {op : Op} {T : TypeId} {pos : String} {af : Array Edge}

theorem yielded_un {j t : Nat} (hs : slotOf l0 j = some t) (hv : ev n e (.tmp t) = undef) : yielded l0.toArray (act n e).tmps j = none := by
  unfold yielded
  rw [List.getElem?_toArray, slotOf_eq, hs]
  simp only [ev] at hv
  cases hb : Nat.blt t n with
  | false =>
    have ht : ¬ t < n := by intro h; rw [← Nat.blt_eq] at h; rw [h] at hb; exact absurd hb (by decide)
    simp [act, ht, undef]
  | true =>
    rw [hb] at hv
    simp only [cond_true] at hv
    have ht : t < n := by rw [Nat.blt_eq] at hb; exact hb
    simp [act, ht, hv, undef]
theorem g_un {j t : Nat} {b : Bool} (hs : slotOf l0 j = some t) (hv : ev n e (.tmp t) = undef) (h : ow P n l0 K l (updo e d undef) w) :
    ow P n l0 K (⟨d, op, T, pos, af, some (j, b)⟩ :: l) e w := by
  unfold ow
  rw [if_neg (by simp [Region.wanted, yielded_un hs hv])]
  exact h

end E
end Go.Proofs.Ytbfphjhahgpndaa
