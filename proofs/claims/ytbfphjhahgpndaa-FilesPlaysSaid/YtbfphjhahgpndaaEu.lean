/- More rules: function values and calls of them. No condition. -/
import Derived.Test.YtbfphjhahgpndaaEv
namespace Go.Proofs.Ytbfphjhahgpndaa
open Go.RowKit
set_option linter.unusedVariables false
set_option linter.unusedSimpArgs false
namespace E
variable {P : Program} {n : Nat} {e : Env} {w : World} {l0 l : List Oper} {K : Env → World → Prop} {d : Nat} {T : TypeId} {pos : String} {af : Array Edge} {x y : Operand} {TX TY : TypeId}
/-- a function value -/
theorem o_mkfn {fn : Fn} {caps : List Operand} {vs : List Value} (hv : evs n e caps = vs) (h : ow P n l0 K l (upd e d (.func fn #[] vs.toArray)) w) : ow P n l0 K (⟨some d, .makeFunc fn #[] caps.toArray, T, pos, af, none⟩ :: l) e w := by
  refine o_run (v := .func fn #[] vs.toArray) (w' := w) ?_ h
  simp [execOp, Instr.makeFunc, ← hv, ← evs_eq]
/-- a function value is called -/
theorem o_callc {f : FuncId} {args : List Operand} {vs caps : List Value} {ts : Array TypeId} {d : Option Nat} {S : Value → World → Prop} (hx : ev n e x = .func (.func f) #[] caps.toArray) (hf : callOk P f = true) (hv : evs n e args = vs) (hc : Ret P f (vs ++ caps) w S)
    (h : ∀ v w', S v w' → ow P n l0 K l (updo e d v) w') : ow P n l0 K (⟨d, .call ⟨.value x, args.toArray, ts⟩, T, pos, af, none⟩ :: l) e w := by
  unfold ow
  rw [if_pos (by simp [Region.wanted])]
  unfold opW
  have hr : (execOp (ev n e) ⟨d, .call ⟨.value x, args.toArray, ts⟩, T, pos, af, none⟩).run P w = .ok (.enter f (vs ++ caps).toArray) w := by
    unfold callOk at hf
    split at hf
    · rename_i fn hfn
      simp only [Bool.and_eq_true, Bool.not_eq_true'] at hf
      have hb : ¬ fn.body = none := by cases h : fn.body <;> simp_all
      have hn : ¬ fn.name = "runtime.NumGoroutine" := by simpa using hf.1
      simp [execOp, resolve, Deferred.ofValue, invoke, callFunc, hx, hfn, hn, hb, ← hv, ← evs_eq]
    · cases hf
  rw [hr]
  exact Calls.mono hc fun y w' hy => by
    cases y with
    | returned v => exact h _ _ hy
    | _ => exact hy
end E
end Go.Proofs.Ytbfphjhahgpndaa
