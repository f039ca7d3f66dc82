/- FilesParts, proved of every input: the given statement Rows.FilesPartsSaid. No condition. -/
import Derived.Test.YtbfphjhahgpndaaRows
import Derived.Test.YtbfphjhahgpndaaFf
namespace Go.Proofs.Ytbfphjhahgpndaa.filesParts
open Go.ChangeShapes Go.WideShapes Go.ChangeAt Go.RowKit
set_option linter.unusedVariables false
set_option linter.unusedSimpArgs false

theorem own : ownKnob Try.prog.godebug = none := by kernel_rfl
theorem laidOut : laidOutB Try.prog = true := by kernel_rfl

set_option maxRecDepth 100000 in
theorem lifted (os : Os) (started : os.Started) (H : Type) (enc : TypeId × Value → H) :
    ReturnsInHanded {} Try.checked os 3 .any (Rows.filesPartsSpec.pre6 enc Try.prog Try.f3 Rows.filesPartsRow.domain false) (Rows.filesPartsSpec.post enc Try.prog Try.f3 false true false false) := by
  refine returnsInHanded_of_change_sized (C := Try.checked) own started (by kernel_rfl) Try.func3
    (ChangeSpec.witness6 (enc := enc) (C := Try.checked) false ⟨#[], #[.string ByteArray.empty, .slice none 0 0, .slice none 0 0, .slice none 0 0], []⟩ 8 (by kernel_rfl) (by kernel_rfl) (by kernel_rfl) (by kernel_rfl)) ?_
  intro W base args ds gs before hval0 hW hcnd hsz0 _
  have hval : ∀ (j : Nat) t v, Try.f3.params[j]? = some t → args[j]? = some v → Value.okWide Try.prog W .any base t v := hval0
  have hsz : (DataW.weightsEach Try.prog (Try.f3.params.toList ++ Rows.filesPartsSpec.plain.varTypes Try.prog) (ds ++ gs)).all (· ≤ reachBytes) = true := hsz0
  have hW' := hW
  obtain ⟨p, q, hA0, hV, rfl, hfz, hnd⟩ := hW
  have hA : DataW.TrodAll enc Try.prog W 0 (fun _ => true) true Try.f3.params.toList args.toList ds p := hA0
  rw [Try.params3] at hA hval hsz
  obtain ⟨v0, vs0, d0, ds0, p0, q0, hargs, rfl, rfl, h0, r0⟩ := trodAll_cons hA
  obtain ⟨v1, vs1, d1, ds1, p1, q1, rfl, rfl, rfl, h1, r1⟩ := trodAll_cons r0
  obtain ⟨v2, vs2, d2, ds2, p2, q2, rfl, rfl, rfl, h2, r2⟩ := trodAll_cons r1
  obtain ⟨v3, vs3, d3, ds3, p3, q3, rfl, rfl, rfl, h3, r3⟩ := trodAll_cons r2
  obtain ⟨rfl, rfl, rfl⟩ := trodAll_nil r3
  obtain rfl : args = #[v0, v1, v2, v3] := by cases args; simp_all
  obtain ⟨rfl, rfl⟩ := trodVars_none hV
  have k0 := h0
  have k1 := h1
  have k2 := h2
  have k3 := h3
  have ok0 := hval 0 9 v0 rfl rfl
  have ok1 := hval 1 22 v1 rfl rfl
  have ok2 := hval 2 22 v2 rfl rfl
  have ok3 := hval 3 23 v3 rfl rfl
  clear hval0 hA0
  obtain ⟨a0, rfl, bd0⟩ := E.op_str Try.underlying9 ok0 h0
  obtain ⟨a1, n1, c1, z1, rfl, row1, rb1⟩ := E.op_row Try.underlying22 Try.underlying5 (by kernel_rfl) ok1 h1 (fun elems spare hd => sized_slice hsz (j := 1) (t := 22) (e := 5) rfl (by rw [hd]; rfl) Try.underlying22)
  rw [show Try.prog.bytesOf 5 = 1 from by kernel_rfl] at rb1
  obtain ⟨a2, n2, c2, z2, rfl, row2, rb2⟩ := E.op_row Try.underlying22 Try.underlying5 (by kernel_rfl) ok2 h2 (fun elems spare hd => sized_slice hsz (j := 2) (t := 22) (e := 5) rfl (by rw [hd]; rfl) Try.underlying22)
  rw [show Try.prog.bytesOf 5 = 1 from by kernel_rfl] at rb2
  obtain ⟨a3, n3, c3, z3, rfl, row3, rb3⟩ := E.op_row Try.underlying23 Try.underlying30 (by kernel_rfl) ok3 h3 (fun elems spare hd => sized_slice hsz (j := 3) (t := 23) (e := 30) rfl (by rw [hd]; rfl) Try.underlying23)
  rw [show Try.prog.bytesOf 30 = 2 from by kernel_rfl] at rb3
  have walk : Calls Try.prog 3 #[.string a0, .slice a1 n1 c1, .slice a2 n2 c2, .slice a3 n3 c3] W (fun e w' => e = .returned (.bool true) ∧ Below W.heap.size W w') := by
    obtain ⟨l1, hl1, h12, h13, hR1⟩ := E.row_u8 row1
    obtain ⟨l2, hl2, h22, h23, hR2⟩ := E.row_u8 row2
    obtain ⟨l3, hl3, h32, h33, hR3⟩ := E.row_u16 row3
    exact E.law_calls (parts_ok _ _ _ _ _ _ _ _ _ _ _ l1 l2 l3 bd0 hR1 hR2 hR3 hl1 hl2 hl3 (by omega) (by omega))
  refine walk.mono fun e W' ⟨he, bel⟩ => ?_
  subst he
  exact ⟨_, rfl, _, _, _, [], _, [], hW', trodAll_mk1 (shut_bool Try.underlying4 _), (trodAll_cons_mk (Below.trod laidOut (by kernel_rfl) (of_decide_eq_true (by kernel_rfl)) k0 bel (E.op_lt k0)) (trodAll_cons_mk (Below.trod laidOut (by kernel_rfl) (of_decide_eq_true (by kernel_rfl)) k1 bel (E.op_lt k1)) (trodAll_cons_mk (Below.trod laidOut (by kernel_rfl) (of_decide_eq_true (by kernel_rfl)) k2 bel (E.op_lt k2)) (trodAll_cons_mk (Below.trod laidOut (by kernel_rfl) (of_decide_eq_true (by kernel_rfl)) k3 bel (E.op_lt k3)) trodAll_mk0)))), rfl, bel.frame _, fun h => by cases h⟩

theorem over : Rows.filesPartsRow.holds Try.pinned (OpenSpec.ofChange Rows.filesPartsSpec) :=
  OpenClaim.holds_of_wide 3 Try.f3 rfl rfl rfl rfl rfl rfl rfl ⟨rfl, rfl, rfl, rfl, rfl⟩ rfl rfl rfl rfl rfl (by kernel_rfl) Try.func3 (by kernel_rfl)
    (of_decide_eq_true (by kernel_rfl)) (by unfold Func.isWrapper; first | (rw [if_pos (by decide +kernel)]; kernel_rfl) | (rw [if_neg (by decide +kernel)]; exact ⟨rfl, rfl⟩))
    (fun os started H enc _ => lifted os started H enc)

theorem proved : Rows.FilesPartsSaid := over
#print axioms proved
end Go.Proofs.Ytbfphjhahgpndaa.filesParts
