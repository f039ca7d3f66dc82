/- SumTurned, proved of every input: the given statement Rows.SumTurnedSaid. No condition. -/
import Derived.Test.YtmilnijpnlhcoaaRows
import Derived.Test.YtmilnijpnlhcoaaLd
namespace Go.Proofs.Ytmilnijpnlhcoaa.sumTurned
open Go.ChangeShapes Go.WideShapes Go.ChangeAt Go.RowKit
set_option linter.unusedVariables false
set_option linter.unusedSimpArgs false

theorem own : ownKnob Try.prog.godebug = none := by kernel_rfl
theorem laidOut : laidOutB Try.prog = true := by kernel_rfl

set_option maxRecDepth 100000 in
theorem lifted (os : Os) (started : os.Started) (H : Type) (enc : TypeId × Value → H) :
    ReturnsInHanded {} Try.checked os 6 .any (Rows.sumTurnedSpec.pre6 enc Try.prog Try.f6 Rows.sumTurnedRow.domain false) (Rows.sumTurnedSpec.post enc Try.prog Try.f6 false true false false) := by
  refine returnsInHanded_of_change_sized (C := Try.checked) own started (by kernel_rfl) Try.func6
    (ChangeSpec.witness6 (enc := enc) (C := Try.checked) false ⟨#[], #[.slice none 0 0, .int .u16 0, .agg #[.int .u8 0, .int .u8 0, .int .u8 0, .int .u8 0]], []⟩ 8 (by kernel_rfl) (by kernel_rfl) (by kernel_rfl) (by kernel_rfl)) ?_
  intro W base args ds gs before hval0 hW hcnd hsz0 _
  have hval : ∀ (j : Nat) t v, Try.f6.params[j]? = some t → args[j]? = some v → Value.okWide Try.prog W .any base t v := hval0
  have hsz : (DataW.weightsEach Try.prog (Try.f6.params.toList ++ Rows.sumTurnedSpec.plain.varTypes Try.prog) (ds ++ gs)).all (· ≤ reachBytes) = true := hsz0
  have hW' := hW
  obtain ⟨p, q, hA0, hV, rfl, hfz, hnd⟩ := hW
  have hA : DataW.TrodAll enc Try.prog W 0 (fun _ => true) true Try.f6.params.toList args.toList ds p := hA0
  rw [Try.params6] at hA hval hsz
  obtain ⟨v0, vs0, d0, ds0, p0, q0, hargs, rfl, rfl, h0, r0⟩ := trodAll_cons hA
  obtain ⟨v1, vs1, d1, ds1, p1, q1, rfl, rfl, rfl, h1, r1⟩ := trodAll_cons r0
  obtain ⟨v2, vs2, d2, ds2, p2, q2, rfl, rfl, rfl, h2, r2⟩ := trodAll_cons r1
  obtain ⟨rfl, rfl, rfl⟩ := trodAll_nil r2
  obtain rfl : args = #[v0, v1, v2] := by cases args; simp_all
  obtain ⟨rfl, rfl⟩ := trodVars_none hV
  have k0 := h0
  have k1 := h1
  have k2 := h2
  have ok0 := hval 0 22 v0 rfl rfl
  have ok1 := hval 1 32 v1 rfl rfl
  have ok2 := hval 2 35 v2 rfl rfl
  clear hval0 hA0
  obtain ⟨a0, n0, c0, z0, rfl, row0, rb0⟩ := E.op_row Try.underlying22 Try.underlying5 (by kernel_rfl) ok0 h0 (fun elems spare hd => sized_slice hsz (j := 0) (t := 22) (e := 5) rfl (by rw [hd]; rfl) Try.underlying22)
  rw [show Try.prog.bytesOf 5 = 1 from by kernel_rfl] at rb0
  obtain ⟨a1, rfl, bd1⟩ := E.op_int Try.underlying32 ok1 h1
  simp only [IntKind.min, IntKind.max, IntKind.signed, IntKind.bits] at bd1
  obtain ⟨z2, rfl, zl2, zb2⟩ := E.op_arr Try.underlying35 Try.underlying5 (by kernel_rfl) (by kernel_rfl) ok2 h2
  have walk : Calls Try.prog 6 #[.slice a0 n0 c0, .int .u16 a1, .agg (z2.map (Value.int .u8)).toArray] W (fun e w' => e = .returned (.bool true) ∧ Below W.heap.size W w') := by
    obtain ⟨l, rfl, h2, h3, hR⟩ := E.row_u8 row0
    obtain ⟨p, hp⟩ : ∃ p : BitVec 16, a1 = (p.toNat : Int) := ⟨BitVec.ofInt 16 a1, by rw [BitVec.toNat_ofInt]; simp at bd1; omega⟩
    subst hp
    have hz : (z2.map (BitVec.ofInt 8)).map E.u8v = z2.map (Value.int .u8) := by
      rw [List.map_map]
      apply List.map_congr_left
      intro z hz
      have := zb2 z hz
      simp [IntKind.min, IntKind.max, IntKind.signed, IntKind.bits] at this
      simp only [Function.comp, E.u8v, BitVec.toNat_ofInt]
      congr 1
      omega
    rw [← hz]
    exact E.law_calls (sumTurned_ok W a0 c0 l p (z2.map (BitVec.ofInt 8)) hR (by omega) (by simpa using zl2))
  refine walk.mono fun e W' ⟨he, bel⟩ => ?_
  subst he
  exact ⟨_, rfl, _, _, _, [], _, [], hW', trodAll_mk1 (shut_bool Try.underlying4 _), (trodAll_cons_mk (Below.trod laidOut (by kernel_rfl) (of_decide_eq_true (by kernel_rfl)) k0 bel (E.op_lt k0)) (trodAll_cons_mk (Below.trod laidOut (by kernel_rfl) (of_decide_eq_true (by kernel_rfl)) k1 bel (E.op_lt k1)) (trodAll_cons_mk (Below.trod laidOut (by kernel_rfl) (of_decide_eq_true (by kernel_rfl)) k2 bel (E.op_lt k2)) trodAll_mk0))), rfl, bel.frame _, fun h => by cases h⟩

theorem over : Rows.sumTurnedRow.holds Try.pinned (OpenSpec.ofChange Rows.sumTurnedSpec) :=
  OpenClaim.holds_of_wide 6 Try.f6 rfl rfl rfl rfl rfl rfl rfl ⟨rfl, rfl, rfl, rfl, rfl⟩ rfl rfl rfl rfl rfl (by kernel_rfl) Try.func6 (by kernel_rfl)
    (of_decide_eq_true (by kernel_rfl)) (by unfold Func.isWrapper; first | (rw [if_pos (by decide +kernel)]; kernel_rfl) | (rw [if_neg (by decide +kernel)]; exact ⟨rfl, rfl⟩))
    (fun os started H enc _ => lifted os started H enc)

theorem proved : Rows.SumTurnedSaid := over
#print axioms proved
end Go.Proofs.Ytmilnijpnlhcoaa.sumTurned
