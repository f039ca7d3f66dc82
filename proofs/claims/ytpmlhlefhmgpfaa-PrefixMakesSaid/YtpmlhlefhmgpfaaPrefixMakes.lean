/- PrefixMakes, proved of every input: the given statement Rows.PrefixMakesSaid. No condition. -/
import Derived.Test.YtpmlhlefhmgpfaaRows
import Derived.Test.YtpmlhlefhmgpfaaPf
namespace Go.Proofs.Ytpmlhlefhmgpfaa.prefixMakes
open Go.ChangeShapes Go.WideShapes Go.ChangeAt Go.RowKit
set_option linter.unusedVariables false
set_option linter.unusedSimpArgs false

theorem own : ownKnob Try.prog.godebug = none := by kernel_rfl
theorem laidOut : laidOutB Try.prog = true := by kernel_rfl

set_option maxRecDepth 100000 in
theorem lifted (os : Os) (started : os.Started) (H : Type) (enc : TypeId × Value → H) :
    ReturnsInHanded {} Try.checked os 7 .any (Rows.prefixMakesSpec.pre6 enc Try.prog Try.f7 Rows.prefixMakesRow.domain false) (Rows.prefixMakesSpec.post enc Try.prog Try.f7 false true false false) := by
  refine returnsInHanded_of_change_sized (C := Try.checked) own started (by kernel_rfl) Try.func7
    (ChangeSpec.witness6 (enc := enc) (C := Try.checked) false ⟨#[], #[.slice none 0 0, .bool false, .int .i64 0], []⟩ 8 (by kernel_rfl) (by kernel_rfl) (by kernel_rfl) (by kernel_rfl)) ?_
  intro W base args ds gs before hval0 hW hcnd hsz0 _
  have hval : ∀ (j : Nat) t v, Try.f7.params[j]? = some t → args[j]? = some v → Value.okWide Try.prog W .any base t v := hval0
  have hsz : (DataW.weightsEach Try.prog (Try.f7.params.toList ++ Rows.prefixMakesSpec.plain.varTypes Try.prog) (ds ++ gs)).all (· ≤ reachBytes) = true := hsz0
  have hW' := hW
  obtain ⟨p, q, hA0, hV, rfl, hfz, hnd⟩ := hW
  have hA : DataW.TrodAll enc Try.prog W 0 (fun _ => true) true Try.f7.params.toList args.toList ds p := hA0
  rw [Try.params7] at hA hval hsz
  obtain ⟨v0, vs0, d0, ds0, p0, q0, hargs, rfl, rfl, h0, r0⟩ := trodAll_cons hA
  obtain ⟨v1, vs1, d1, ds1, p1, q1, rfl, rfl, rfl, h1, r1⟩ := trodAll_cons r0
  obtain ⟨v2, vs2, d2, ds2, p2, q2, rfl, rfl, rfl, h2, r2⟩ := trodAll_cons r1
  obtain ⟨rfl, rfl, rfl⟩ := trodAll_nil r2
  obtain rfl : args = #[v0, v1, v2] := by cases args; simp_all
  obtain ⟨rfl, rfl⟩ := trodVars_none hV
  have k0 := h0
  have k1 := h1
  have k2 := h2
  have ok0 := hval 0 42 v0 rfl rfl
  have ok1 := hval 1 4 v1 rfl rfl
  have ok2 := hval 2 3 v2 rfl rfl
  clear hval0 hA0
  obtain ⟨a0, n0, c0, z0, rfl, row0, rb0⟩ := E.op_row Try.underlying42 Try.underlying3 (by kernel_rfl) ok0 h0 (fun elems spare hd => sized_slice hsz (j := 0) (t := 42) (e := 3) rfl (by rw [hd]; rfl) Try.underlying42)
  rw [show Try.prog.bytesOf 3 = 8 from by kernel_rfl] at rb0
  obtain ⟨a1, rfl⟩ := E.op_bool Try.underlying4 ok1 h1
  obtain ⟨a2, rfl, bd2⟩ := E.op_int Try.underlying3 ok2 h2
  simp only [IntKind.min, IntKind.max, IntKind.signed, IntKind.bits] at bd2
  have walk : Calls Try.prog 7 #[.slice a0 n0 c0, .bool a1, .int .i64 a2] W (fun e w' => e = .returned (.bool true) ∧ Below W.heap.size W w') := by
    obtain ⟨l, hl, h2, h3, hR, hx⟩ := E.row_i64 row0
    subst hl
    exact E.law_calls (makes_ok _ _ _ l _ _ hR (by omega))
  refine walk.mono fun e W' ⟨he, bel⟩ => ?_
  subst he
  exact ⟨_, rfl, _, _, _, [], _, [], hW', trodAll_mk1 (shut_bool Try.underlying4 _), (trodAll_cons_mk (Below.trod laidOut (by kernel_rfl) (of_decide_eq_true (by kernel_rfl)) k0 bel (E.op_lt k0)) (trodAll_cons_mk (Below.trod laidOut (by kernel_rfl) (of_decide_eq_true (by kernel_rfl)) k1 bel (E.op_lt k1)) (trodAll_cons_mk (Below.trod laidOut (by kernel_rfl) (of_decide_eq_true (by kernel_rfl)) k2 bel (E.op_lt k2)) trodAll_mk0))), rfl, bel.frame _, fun h => by cases h⟩

theorem over : Rows.prefixMakesRow.holds Try.pinned (OpenSpec.ofChange Rows.prefixMakesSpec) :=
  OpenClaim.holds_of_wide 7 Try.f7 rfl rfl rfl rfl rfl rfl rfl ⟨rfl, rfl, rfl, rfl, rfl⟩ rfl rfl rfl rfl rfl (by kernel_rfl) Try.func7 (by kernel_rfl)
    (of_decide_eq_true (by kernel_rfl)) (by unfold Func.isWrapper; first | (rw [if_pos (by decide +kernel)]; kernel_rfl) | (rw [if_neg (by decide +kernel)]; exact ⟨rfl, rfl⟩))
    (fun os started H enc _ => lifted os started H enc)

theorem proved : Rows.PrefixMakesSaid := over
#print axioms proved
end Go.Proofs.Ytpmlhlefhmgpfaa.prefixMakes
