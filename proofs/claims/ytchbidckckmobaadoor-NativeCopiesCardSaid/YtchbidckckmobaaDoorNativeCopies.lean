/- NativeCopies, proved of every input: the given statement Rows.NativeCopiesCardSaid. No condition. -/
import Derived.Test.YtchbidckckmobaaDoorRows
import Derived.Test.YtchbidckckmobaaDoorCards
import Derived.Test.YtchbidckckmobaaDoorTie
import Derived.Test.YtchbidckckmobaaDoorHz
import Derived.Test.YtchbidckckmobaaDoorHo
import Derived.SevenTiedAt
namespace Go.Proofs.YtchbidckckmobaaDoor.nativeCopies
open Go.ChangeShapes Go.WideShapes Go.ChangeAt Go.RowKit
set_option linter.unusedVariables false
set_option linter.unusedSimpArgs false

theorem own : ownKnob Tryd.prog.godebug = none := by kernel_rfl
theorem laidOut : laidOutB Tryd.prog = true := by kernel_rfl

set_option maxRecDepth 100000 in
theorem lifted (os : Os) (started : os.Started) (H : Type) (enc : TypeId × Value → H) :
    ReturnsInHanded {} Tryd.checked os 14 .any (fun w args => (Rows.nativeCopiesSpec.pre enc Tryd.prog Tryd.f14 [] false w args ∧ laidMetH Tryd.prog lst3 w) ∧ sizedMet enc Tryd.prog Tryd.f14 (OpenSpec.ofChange Rows.nativeCopiesSpec) false w args)
      (Rows.nativeCopiesSpec.post enc Tryd.prog Tryd.f14 false true false false) := by
  refine returnsInHanded_of_change_and (C := Tryd.checked) (X := fun w _ => laidMetH Tryd.prog lst3 w) (fun _ _ _ hh h => h.of_heap hh) own started (by kernel_rfl) Tryd.func14
    (ChangeSpec.witness_shaped (enc := enc) (C := Tryd.checked) (os := os) (X := fun w _ => laidMetH Tryd.prog lst3 w) false (World.doorLaid Tryd.prog 24 os) #[.slice none 0 0, .int .u8 0, .int .u8 0, .int .u8 0] 8 rfl (World.shaped_of_RefB (by kernel_rfl) (by kernel_rfl)) (by kernel_rfl) (by kernel_rfl) (by kernel_rfl) (door_met3 os _)) ?_
  intro W base args ds gs before hval0 hW hcnd hsz0 hL _
  have hval : ∀ (j : Nat) t v, Tryd.f14.params[j]? = some t → args[j]? = some v → Value.okWide Tryd.prog W .any base t v := hval0
  have hsz : (DataW.weightsEach Tryd.prog (Tryd.f14.params.toList ++ Rows.nativeCopiesSpec.plain.varTypes Tryd.prog) (ds ++ gs)).all (· ≤ reachBytes) = true := hsz0
  have hW' := hW
  obtain ⟨p, q, hA0, hV, rfl, hfz, hnd⟩ := hW
  have hA : DataW.TrodAll enc Tryd.prog W 0 (fun _ => true) true Tryd.f14.params.toList args.toList ds p := hA0
  rw [Tryd.params14] at hA hval hsz
  obtain ⟨v0, vs0, d0, ds0, p0, q0, hargs, rfl, rfl, h0, r0⟩ := trodAll_cons hA
  obtain ⟨v1, vs1, d1, ds1, p1, q1, rfl, rfl, rfl, h1, r1⟩ := trodAll_cons r0
  obtain ⟨v2, vs2, d2, ds2, p2, q2, rfl, rfl, rfl, h2, r2⟩ := trodAll_cons r1
  obtain ⟨v3, vs3, d3, ds3, p3, q3, rfl, rfl, rfl, h3, r3⟩ := trodAll_cons r2
  obtain ⟨rfl, rfl, rfl⟩ := trodAll_nil r3
  obtain rfl : args = #[v0, v1, v2, v3] := by cases args; simp_all
  obtain ⟨rfl, rfl⟩ := trodVars_none hV
  have k0 := h0
  have k1 := h1
  have k2 := h2
  have k3 := h3
  have ok0 := hval 0 77 v0 rfl rfl
  have ok1 := hval 1 5 v1 rfl rfl
  have ok2 := hval 2 5 v2 rfl rfl
  have ok3 := hval 3 5 v3 rfl rfl
  clear hval0 hA0
  obtain ⟨a0, n0, c0, z0, rfl, row0, rb0⟩ := E.op_row Tryd.underlying77 Tryd.underlying47 (by kernel_rfl) ok0 h0 (fun elems spare hd => sized_slice hsz (j := 0) (t := 77) (e := 47) rfl (by rw [hd]; rfl) Tryd.underlying77)
  rw [show Tryd.prog.bytesOf 47 = 2 from by kernel_rfl] at rb0
  obtain ⟨a1, rfl, bd1⟩ := E.op_int Tryd.underlying5 ok1 h1
  simp only [IntKind.min, IntKind.max, IntKind.signed, IntKind.bits] at bd1
  obtain ⟨a2, rfl, bd2⟩ := E.op_int Tryd.underlying5 ok2 h2
  simp only [IntKind.min, IntKind.max, IntKind.signed, IntKind.bits] at bd2
  obtain ⟨a3, rfl, bd3⟩ := E.op_int Tryd.underlying5 ok3 h3
  simp only [IntKind.min, IntKind.max, IntKind.signed, IntKind.bits] at bd3
  have walk : Calls Tryd.prog 14 #[.slice a0 n0 c0, .int .u8 a1, .int .u8 a2, .int .u8 a3] W (fun e w' => e = .returned (.bool true) ∧ Below W.heap.size W w') := by
    obtain ⟨l0, rfl, h02, h03, hR0⟩ := E.row_u16 row0
    have hb : ∀ z : Int, 0 ≤ z → z ≤ 255 → ∃ b : BitVec 8, z = b.toNat := fun z h0 h1 => ⟨BitVec.ofInt 8 z, by simp [BitVec.toNat_ofInt]; omega⟩
    obtain ⟨b1, rfl⟩ := hb a1 (by revert bd1; simp <;> omega) (by revert bd1; simp <;> omega)
    obtain ⟨b2, rfl⟩ := hb a2 (by revert bd2; simp <;> omega) (by revert bd2; simp <;> omega)
    obtain ⟨b3, rfl⟩ := hb a3 (by revert bd3; simp <;> omega) (by revert bd3; simp <;> omega)
    exact E.law_calls (ncopies_ok _ _ _ l0 b1 b2 b3 hR0 h02 (by omega) (tab10_of hL))
  refine walk.mono fun e W' ⟨he, bel⟩ => ?_
  subst he
  exact ⟨_, rfl, _, _, _, [], _, [], hW', trodAll_mk1 (shut_bool Tryd.underlying4 _), (trodAll_cons_mk (Below.trod laidOut (by kernel_rfl) (of_decide_eq_true (by kernel_rfl)) k0 bel (E.op_lt k0)) (trodAll_cons_mk (Below.trod laidOut (by kernel_rfl) (of_decide_eq_true (by kernel_rfl)) k1 bel (E.op_lt k1)) (trodAll_cons_mk (Below.trod laidOut (by kernel_rfl) (of_decide_eq_true (by kernel_rfl)) k2 bel (E.op_lt k2)) (trodAll_cons_mk (Below.trod laidOut (by kernel_rfl) (of_decide_eq_true (by kernel_rfl)) k3 bel (E.op_lt k3)) trodAll_mk0)))), rfl, bel.frame _, fun h => by cases h⟩

theorem over : Rows.nativeCopiesRow.holds Tryd.pinned (OpenSpec.ofChange Rows.nativeCopiesSpec) :=
  OpenClaim.holds_of_wide 14 Tryd.f14 rfl rfl rfl rfl rfl rfl rfl ⟨rfl, rfl, rfl, rfl, rfl⟩ rfl rfl rfl rfl rfl (by kernel_rfl) Tryd.func14 (by kernel_rfl)
    (of_decide_eq_true (by kernel_rfl)) (by unfold Func.isWrapper; first | (rw [if_pos (by decide +kernel)]; kernel_rfl) | (rw [if_neg (by decide +kernel)]; exact ⟨rfl, rfl⟩))
    (fun os started H enc _ => lifted os started H enc)

theorem proved : Rows.NativeCopiesCardSaid :=
  Claim7.holds_tied_plain_at .later [] [.data, .data, .data] true (true, "d0be065d193a3fa1b56c4b771d487460df22bb6101bcc3db90dac086316fe3a6") false
    over (fun _ h => by cases h) (by kernel_rfl) (fun _ h => by cases h) nativeCopies_row_tie rfl ⟨rfl, rfl⟩ (by kernel_rfl) rfl
    (fun f fn hf hfn => by
      obtain rfl : f = 14 := Option.some.inj ((show Tryd.prog.funcNamed "samovar/samovarlaw24.NativeCopies" = some 14 by kernel_rfl).symm.trans hf) |>.symm
      obtain rfl : fn = Tryd.f14 := (Option.some.inj (Tryd.func14.symm.trans hfn)).symm
      exact ⟨by kernel_rfl, fun j t ht => by
        rw [Tryd.params14] at ht
        have hm : t ∈ [77, 5, 5, 5] := List.mem_of_getElem? (i := j) (by simpa using ht)
        have hall : ∀ t ∈ [77, 5, 5, 5], Tryd.prog.wantsStandIn t = false := by
          intro t ht
          simp only [List.mem_cons, List.not_mem_nil, or_false] at ht
          rcases ht with rfl | rfl | rfl | rfl
          all_goals kernel_rfl
        exact hall t hm⟩)
    (by kernel_rfl)
#print axioms proved
end Go.Proofs.YtchbidckckmobaaDoor.nativeCopies
