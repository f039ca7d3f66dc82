/- OpsJoins, proved of every input: the given statement Rows.OpsJoinsSaid. No condition. -/
import Derived.Test.YtmdkinedbmjieaaRows
import Derived.Test.YtmdkinedbmjieaaOs
namespace Go.Proofs.Ytmdkinedbmjieaa.opsJoins
open Go.ChangeShapes Go.WideShapes Go.ChangeAt Go.RowKit
set_option linter.unusedVariables false
set_option linter.unusedSimpArgs false

theorem own : ownKnob Try.prog.godebug = none := by kernel_rfl
theorem laidOut : laidOutB Try.prog = true := by kernel_rfl

set_option maxRecDepth 100000 in
theorem lifted (os : Os) (started : os.Started) (H : Type) (enc : TypeId × Value → H) :
    ReturnsInHanded {} Try.checked os 7 .any (Rows.opsJoinsSpec.pre6 enc Try.prog Try.f7 Rows.opsJoinsRow.domain false) (Rows.opsJoinsSpec.post enc Try.prog Try.f7 false true false false) := by
  refine returnsInHanded_of_change_sized (C := Try.checked) own started (by kernel_rfl) Try.func7
    (ChangeSpec.witness6 (enc := enc) (C := Try.checked) false ⟨#[], #[.slice none 0 0, .slice none 0 0], []⟩ 8 (by kernel_rfl) (by kernel_rfl) (by kernel_rfl) (by kernel_rfl)) ?_
  intro W base args ds gs before hval0 hW hcnd hsz0 _
  have hval : ∀ (j : Nat) t v, Try.f7.params[j]? = some t → args[j]? = some v → Value.okWide Try.prog W .any base t v := hval0
  have hsz : (DataW.weightsEach Try.prog (Try.f7.params.toList ++ Rows.opsJoinsSpec.plain.varTypes Try.prog) (ds ++ gs)).all (· ≤ reachBytes) = true := hsz0
  have hW' := hW
  obtain ⟨p, q, hA0, hV, rfl, hfz, hnd⟩ := hW
  have hA : DataW.TrodAll enc Try.prog W 0 (fun _ => true) true Try.f7.params.toList args.toList ds p := hA0
  rw [Try.params7] at hA hval hsz
  obtain ⟨v0, vs0, d0, ds0, p0, q0, hargs, rfl, rfl, h0, r0⟩ := trodAll_cons hA
  obtain ⟨v1, vs1, d1, ds1, p1, q1, rfl, rfl, rfl, h1, r1⟩ := trodAll_cons r0
  obtain ⟨rfl, rfl, rfl⟩ := trodAll_nil r1
  obtain rfl : args = #[v0, v1] := by cases args; simp_all
  obtain ⟨rfl, rfl⟩ := trodVars_none hV
  have k0 := h0
  have k1 := h1
  have ok0 := hval 0 22 v0 rfl rfl
  have ok1 := hval 1 22 v1 rfl rfl
  clear hval0 hA0
  obtain ⟨a0, n0, c0, z0, rfl, row0, rb0⟩ := E.op_row Try.underlying22 Try.underlying5 (by kernel_rfl) ok0 h0 (fun elems spare hd => sized_slice hsz (j := 0) (t := 22) (e := 5) rfl (by rw [hd]; rfl) Try.underlying22)
  rw [show Try.prog.bytesOf 5 = 1 from by kernel_rfl] at rb0
  obtain ⟨a1, n1, c1, z1, rfl, row1, rb1⟩ := E.op_row Try.underlying22 Try.underlying5 (by kernel_rfl) ok1 h1 (fun elems spare hd => sized_slice hsz (j := 1) (t := 22) (e := 5) rfl (by rw [hd]; rfl) Try.underlying22)
  rw [show Try.prog.bytesOf 5 = 1 from by kernel_rfl] at rb1
  have walk : Calls Try.prog 7 #[.slice a0 n0 c0, .slice a1 n1 c1] W (fun e w' => e = .returned (.bool true) ∧ Below W.heap.size W w') := by
    obtain ⟨l, hl, h2, h3, hR⟩ := E.row_u8 row0
    obtain ⟨l1, hl1, h21, h31, hR1⟩ := E.row_u8 row1
    exact E.law_calls (joins_ok _ _ _ _ _ _ _ l l1 hl hR h2 h3 (by omega) hl1 hR1 h21 h31 (by omega))
  refine walk.mono fun e W' ⟨he, bel⟩ => ?_
  subst he
  exact ⟨_, rfl, _, _, _, [], _, [], hW', trodAll_mk1 (shut_bool Try.underlying4 _), (trodAll_cons_mk (Below.trod laidOut (by kernel_rfl) (of_decide_eq_true (by kernel_rfl)) k0 bel (E.op_lt k0)) (trodAll_cons_mk (Below.trod laidOut (by kernel_rfl) (of_decide_eq_true (by kernel_rfl)) k1 bel (E.op_lt k1)) trodAll_mk0)), rfl, bel.frame _, fun h => by cases h⟩

theorem over : Rows.opsJoinsRow.holds Try.pinned (OpenSpec.ofChange Rows.opsJoinsSpec) :=
  OpenClaim.holds_of_wide 7 Try.f7 rfl rfl rfl rfl rfl rfl rfl ⟨rfl, rfl, rfl, rfl, rfl⟩ rfl rfl rfl rfl rfl (by kernel_rfl) Try.func7 (by kernel_rfl)
    (of_decide_eq_true (by kernel_rfl)) (by unfold Func.isWrapper; first | (rw [if_pos (by decide +kernel)]; kernel_rfl) | (rw [if_neg (by decide +kernel)]; exact ⟨rfl, rfl⟩))
    (fun os started H enc _ => lifted os started H enc)

theorem proved : Rows.OpsJoinsSaid := over
#print axioms proved
end Go.Proofs.Ytmdkinedbmjieaa.opsJoins
