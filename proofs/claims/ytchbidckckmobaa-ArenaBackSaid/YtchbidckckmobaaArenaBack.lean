/- ArenaBack, proved of every input: the given statement Rows.ArenaBackSaid. No condition. -/
import Derived.Test.YtchbidckckmobaaRows
import Derived.Test.YtchbidckckmobaaAi
namespace Go.Proofs.Ytchbidckckmobaa.arenaBack
open Go.ChangeShapes Go.WideShapes Go.ChangeAt Go.RowKit
set_option linter.unusedVariables false
set_option linter.unusedSimpArgs false

theorem own : ownKnob Try.prog.godebug = none := by kernel_rfl
theorem laidOut : laidOutB Try.prog = true := by kernel_rfl

set_option maxRecDepth 100000 in
theorem lifted (os : Os) (started : os.Started) (H : Type) (enc : TypeId × Value → H) :
    ReturnsInHanded {} Try.checked os 4 .any (Rows.arenaBackSpec.pre6 enc Try.prog Try.f4 Rows.arenaBackRow.domain false) (Rows.arenaBackSpec.post enc Try.prog Try.f4 false true false false) := by
  refine returnsInHanded_of_change_sized (C := Try.checked) own started (by kernel_rfl) Try.func4
    (ChangeSpec.witness6 (enc := enc) (C := Try.checked) false ⟨#[], #[.int .i64 0, .int .i64 0, .int .i64 0, .int .i64 0, .int .i64 0], []⟩ 8 (by kernel_rfl) (by kernel_rfl) (by kernel_rfl) (by kernel_rfl)) ?_
  intro W base args ds gs before hval0 hW hcnd hsz0 _
  have hval : ∀ (j : Nat) t v, Try.f4.params[j]? = some t → args[j]? = some v → Value.okWide Try.prog W .any base t v := hval0
  have hsz : (DataW.weightsEach Try.prog (Try.f4.params.toList ++ Rows.arenaBackSpec.plain.varTypes Try.prog) (ds ++ gs)).all (· ≤ reachBytes) = true := hsz0
  have hW' := hW
  obtain ⟨p, q, hA0, hV, rfl, hfz, hnd⟩ := hW
  have hA : DataW.TrodAll enc Try.prog W 0 (fun _ => true) true Try.f4.params.toList args.toList ds p := hA0
  rw [Try.params4] at hA hval hsz
  obtain ⟨v0, vs0, d0, ds0, p0, q0, hargs, rfl, rfl, h0, r0⟩ := trodAll_cons hA
  obtain ⟨v1, vs1, d1, ds1, p1, q1, rfl, rfl, rfl, h1, r1⟩ := trodAll_cons r0
  obtain ⟨v2, vs2, d2, ds2, p2, q2, rfl, rfl, rfl, h2, r2⟩ := trodAll_cons r1
  obtain ⟨v3, vs3, d3, ds3, p3, q3, rfl, rfl, rfl, h3, r3⟩ := trodAll_cons r2
  obtain ⟨v4, vs4, d4, ds4, p4, q4, rfl, rfl, rfl, h4, r4⟩ := trodAll_cons r3
  obtain ⟨rfl, rfl, rfl⟩ := trodAll_nil r4
  obtain rfl : args = #[v0, v1, v2, v3, v4] := by cases args; simp_all
  obtain ⟨rfl, rfl⟩ := trodVars_none hV
  have k0 := h0
  have k1 := h1
  have k2 := h2
  have k3 := h3
  have k4 := h4
  have ok0 := hval 0 3 v0 rfl rfl
  have ok1 := hval 1 3 v1 rfl rfl
  have ok2 := hval 2 3 v2 rfl rfl
  have ok3 := hval 3 2 v3 rfl rfl
  have ok4 := hval 4 2 v4 rfl rfl
  clear hval0 hA0
  obtain ⟨a0, rfl, bd0⟩ := E.op_int Try.underlying3 ok0 h0
  simp only [IntKind.min, IntKind.max, IntKind.signed, IntKind.bits] at bd0
  obtain ⟨a1, rfl, bd1⟩ := E.op_int Try.underlying3 ok1 h1
  simp only [IntKind.min, IntKind.max, IntKind.signed, IntKind.bits] at bd1
  obtain ⟨a2, rfl, bd2⟩ := E.op_int Try.underlying3 ok2 h2
  simp only [IntKind.min, IntKind.max, IntKind.signed, IntKind.bits] at bd2
  obtain ⟨a3, rfl, bd3⟩ := E.op_int Try.underlying2 ok3 h3
  simp only [IntKind.min, IntKind.max, IntKind.signed, IntKind.bits] at bd3
  obtain ⟨a4, rfl, bd4⟩ := E.op_int Try.underlying2 ok4 h4
  simp only [IntKind.min, IntKind.max, IntKind.signed, IntKind.bits] at bd4
  have walk : Calls Try.prog 4 #[.int .i64 a0, .int .i64 a1, .int .i64 a2, .int .i64 a3, .int .i64 a4] W (fun e w' => e = .returned (.bool true) ∧ Below W.heap.size W w') := by
    exact E.law_calls (back_ok _ _ _ _ _ _ bd1 bd2 bd3)
  refine walk.mono fun e W' ⟨he, bel⟩ => ?_
  subst he
  exact ⟨_, rfl, _, _, _, [], _, [], hW', trodAll_mk1 (shut_bool Try.underlying4 _), (trodAll_cons_mk (Below.trod laidOut (by kernel_rfl) (of_decide_eq_true (by kernel_rfl)) k0 bel (E.op_lt k0)) (trodAll_cons_mk (Below.trod laidOut (by kernel_rfl) (of_decide_eq_true (by kernel_rfl)) k1 bel (E.op_lt k1)) (trodAll_cons_mk (Below.trod laidOut (by kernel_rfl) (of_decide_eq_true (by kernel_rfl)) k2 bel (E.op_lt k2)) (trodAll_cons_mk (Below.trod laidOut (by kernel_rfl) (of_decide_eq_true (by kernel_rfl)) k3 bel (E.op_lt k3)) (trodAll_cons_mk (Below.trod laidOut (by kernel_rfl) (of_decide_eq_true (by kernel_rfl)) k4 bel (E.op_lt k4)) trodAll_mk0))))), rfl, bel.frame _, fun h => by cases h⟩

theorem over : Rows.arenaBackRow.holds Try.pinned (OpenSpec.ofChange Rows.arenaBackSpec) :=
  OpenClaim.holds_of_wide 4 Try.f4 rfl rfl rfl rfl rfl rfl rfl ⟨rfl, rfl, rfl, rfl, rfl⟩ rfl rfl rfl rfl rfl (by kernel_rfl) Try.func4 (by kernel_rfl)
    (of_decide_eq_true (by kernel_rfl)) (by unfold Func.isWrapper; first | (rw [if_pos (by decide +kernel)]; kernel_rfl) | (rw [if_neg (by decide +kernel)]; exact ⟨rfl, rfl⟩))
    (fun os started H enc _ => lifted os started H enc)

theorem proved : Rows.ArenaBackSaid := over
#print axioms proved
end Go.Proofs.Ytchbidckckmobaa.arenaBack
