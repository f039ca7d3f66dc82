/- The walk of prefix.New. No condition beyond what each contract names. -/
import Derived.Test.YtpmlhlefhmgpfaaBa
import Derived.Test.YtpmlhlefhmgpfaaPq
import Derived.Test.YtpmlhlefhmgpfaaEw
namespace Go.Proofs.Ytpmlhlefhmgpfaa
open Go.RowKit E
set_option linter.unusedVariables false
set_option linter.unusedSimpArgs false
set_option maxRecDepth 100000
attribute [local irreducible] ow qw kw kq cw opW Ret
theorem inf87 : infB Try.prog 87 2 4 (.agg #[.int .u8 0, .int .u16 0]) := ⟨_, rfl, rfl, rfl, rfl⟩
theorem inf3 : infB Try.prog 3 1 8 (.int .i64 0) := ⟨_, rfl, rfl, rfl, rfl⟩
/-- a word as a value -/
def kvw (q : BitVec 8 × BitVec 16) : Value := .agg #[.int .u8 (q.1.toNat : Int), .int .u16 (q.2.toNat : Int)]
theorem key_w : KeyOk Try.prog 87 kvw := by
  refine key_ask Try.underlying87 (fun _ _ => rfl) (fun b x w => by kernel_rfl) (fun x y w => ?_) (fun x => ?_)
  · have h1 : (Op.equal 87 (kvw x) (kvw y)).run Try.prog w = .ok (if !((x.1.toNat : Int) == (y.1.toNat : Int)) then false else if !((x.2.toNat : Int) == (y.2.toNat : Int)) then false else true) w := by
      have e : ∀ d, (Op.equalIn (d + 2) 87 (kvw x) (kvw y)).run Try.prog w = .ok (if !((x.1.toNat : Int) == (y.1.toNat : Int)) then false else if !((x.2.toNat : Int) == (y.2.toNat : Int)) then false else true) w := by
        intro d
        have e5 : ∀ a b : Int, (Op.equalIn (d + 1) 5 (.int .u8 a) (.int .u8 b)).run Try.prog w = .ok (a == b) w := fun a b => by simp [Op.equalIn, run_underlying Try.underlying5]
        have e75 : ∀ a b : Int, (Op.equalIn (d + 1) 75 (.int .u16 a) (.int .u16 b)).run Try.prog w = .ok (a == b) w := fun a b => by simp [Op.equalIn, run_underlying Try.underlying75]
        unfold kvw
        rw [Op.equalIn]
        simp [run_underlying Try.underlying87, part, run_isAgg (show aggB Try.prog 5 = false from rfl), run_isAgg (show aggB Try.prog 75 = false from rfl), e5, e75, show (Try.prog.stoodInHeld 87) = false from by kernel_rfl]
        by_cases h1 : (x.1.toNat : Int) = (y.1.toNat : Int) <;> by_cases h2 : (x.2.toNat : Int) = (y.2.toNat : Int) <;> simp [h1, h2]
      exact e 9998
    rw [h1]
    congr 1
    obtain ⟨x1, x2⟩ := x
    obtain ⟨y1, y2⟩ := y
    by_cases e1 : x1 = y1
    · subst e1
      by_cases e2 : x2 = y2
      · subst e2; simp
      · have : ¬ (x2.toNat : Int) = (y2.toNat : Int) := fun h => e2 (BitVec.eq_of_toNat_eq (by omega))
        simp [e2, this]
    · have : ¬ (x1.toNat : Int) = (y1.toNat : Int) := fun h => e1 (BitVec.eq_of_toNat_eq (by omega))
      simp [e1, this]
  · simp [kvw, Instr.sameBits]
end Go.Proofs.Ytpmlhlefhmgpfaa
