/- HeapCollects, proved of every input: the given statement Rows.HeapCollectsCardSaid. No condition. -/
import Derived.Test.YtchbidckckmobaaDoorRows
import Derived.Test.YtchbidckckmobaaDoorCards
import Derived.Test.YtchbidckckmobaaDoorTie
import Derived.Test.YtchbidckckmobaaDoorZc
import Derived.Test.YtchbidckckmobaaDoorZe
import Derived.SevenTiedAt
namespace Go.Proofs.YtchbidckckmobaaDoor.heapCollects
open Go.ChangeShapes Go.WideShapes Go.ChangeAt Go.RowKit
set_option linter.unusedVariables false
set_option linter.unusedSimpArgs false

theorem own : ownKnob Tryd.prog.godebug = none := by kernel_rfl
theorem laidOut : laidOutB Tryd.prog = true := by kernel_rfl

set_option maxRecDepth 100000 in
theorem lifted (os : Os) (started : os.Started) (H : Type) (enc : TypeId × Value → H) :
    ReturnsInHanded {} Tryd.checked os 9 .any (fun w args => (Rows.heapCollectsSpec.pre enc Tryd.prog Tryd.f9 [] false w args ∧ laidMetH Tryd.prog lst1 w) ∧ sizedMet enc Tryd.prog Tryd.f9 (OpenSpec.ofChange Rows.heapCollectsSpec) false w args)
      (Rows.heapCollectsSpec.post enc Tryd.prog Tryd.f9 false true false false) := by
  refine returnsInHanded_of_change_and (C := Tryd.checked) (X := fun w _ => laidMetH Tryd.prog lst1 w) (fun _ _ _ hh h => h.of_heap hh) own started (by kernel_rfl) Tryd.func9
    (ChangeSpec.witness_shaped (enc := enc) (C := Tryd.checked) (os := os) (X := fun w _ => laidMetH Tryd.prog lst1 w) false (World.doorLaid Tryd.prog 24 os) #[.slice none 0 0, .slice none 0 0, .int .u8 0] 8 rfl (World.shaped_of_RefB (by kernel_rfl) (by kernel_rfl)) (by kernel_rfl) (by kernel_rfl) (by kernel_rfl) (door_met1 os _)) ?_
  intro W base args ds gs before hval0 hW hcnd hsz0 hL _
  have hval : ∀ (j : Nat) t v, Tryd.f9.params[j]? = some t → args[j]? = some v → Value.okWide Tryd.prog W .any base t v := hval0
  have hsz : (DataW.weightsEach Tryd.prog (Tryd.f9.params.toList ++ Rows.heapCollectsSpec.plain.varTypes Tryd.prog) (ds ++ gs)).all (· ≤ reachBytes) = true := hsz0
  have hW' := hW
  obtain ⟨p, q, hA0, hV, rfl, hfz, hnd⟩ := hW
  have hA : DataW.TrodAll enc Tryd.prog W 0 (fun _ => true) true Tryd.f9.params.toList args.toList ds p := hA0
  rw [Tryd.params9] at hA hval hsz
  obtain ⟨v0, vs0, d0, ds0, p0, q0, hargs, rfl, rfl, h0, r0⟩ := trodAll_cons hA
  obtain ⟨v1, vs1, d1, ds1, p1, q1, rfl, rfl, rfl, h1, r1⟩ := trodAll_cons r0
  obtain ⟨v2, vs2, d2, ds2, p2, q2, rfl, rfl, rfl, h2, r2⟩ := trodAll_cons r1
  obtain ⟨rfl, rfl, rfl⟩ := trodAll_nil r2
  obtain rfl : args = #[v0, v1, v2] := by cases args; simp_all
  obtain ⟨rfl, rfl⟩ := trodVars_none hV
  have k0 := h0
  have k1 := h1
  have k2 := h2
  have ok0 := hval 0 58 v0 rfl rfl
  have ok1 := hval 1 23 v1 rfl rfl
  have ok2 := hval 2 5 v2 rfl rfl
  clear hval0 hA0
  obtain ⟨a1, n1, c1, z1, rfl, row1, rb1⟩ := E.op_row Tryd.underlying23 Tryd.underlying3 (by kernel_rfl) ok1 h1 (fun elems spare hd => sized_slice hsz (j := 1) (t := 23) (e := 3) rfl (by rw [hd]; rfl) Tryd.underlying23)
  rw [show Tryd.prog.bytesOf 3 = 8 from by kernel_rfl] at rb1
  obtain ⟨a2, rfl, bd2⟩ := E.op_int Tryd.underlying5 ok2 h2
  simp only [IntKind.min, IntKind.max, IntKind.signed, IntKind.bits] at bd2
  have walk : Calls Tryd.prog 9 #[v0, .slice a1 n1 c1, .int .u8 a2] W (fun e w' => e = .returned (.bool true) ∧ Below W.heap.size W w') := by
    obtain ⟨a0, n0, c0, css, rfl, hcl, hlc, hcm, hby, h7, hR1, hTr⟩ := E.op_deep Tryd.underlying58 (sz := 7) (by kernel_rfl) (by decide) ok0 h0 (E.fit_of hsz (j := 0) (t := 58) rfl rfl)
    obtain ⟨acts, hal, hac, hAct⟩ := hacts_of h7 hTr
    subst hac
    obtain rfl : acts.length = n0 := by rw [hal]; exact hcl
    obtain ⟨m, hm, g4, g5, gR1, gx1⟩ := E.row_i64 row1
    subst hm
    have hb : ∃ b : BitVec 8, a2 = (b.toNat : Int) := ⟨BitVec.ofInt 8 a2, by revert bd2; simp [BitVec.toNat_ofInt] <;> omega⟩
    obtain ⟨b0, rfl⟩ := hb
    exact E.law_calls (hcolls_ok _ a0 c0 acts _ _ m b0 hR1 (by omega) hAct gR1 (tabtz_of hL))
  refine walk.mono fun e W' ⟨he, bel⟩ => ?_
  subst he
  exact ⟨_, rfl, _, _, _, [], _, [], hW', trodAll_mk1 (shut_bool Tryd.underlying4 _), (trodAll_cons_mk (Below.trod laidOut (by kernel_rfl) (of_decide_eq_true (by kernel_rfl)) k0 bel (E.op_lt k0)) (trodAll_cons_mk (Below.trod laidOut (by kernel_rfl) (of_decide_eq_true (by kernel_rfl)) k1 bel (E.op_lt k1)) (trodAll_cons_mk (Below.trod laidOut (by kernel_rfl) (of_decide_eq_true (by kernel_rfl)) k2 bel (E.op_lt k2)) trodAll_mk0))), rfl, bel.frame _, fun h => by cases h⟩

theorem over : Rows.heapCollectsRow.holds Tryd.pinned (OpenSpec.ofChange Rows.heapCollectsSpec) :=
  OpenClaim.holds_of_wide 9 Tryd.f9 rfl rfl rfl rfl rfl rfl rfl ⟨rfl, rfl, rfl, rfl, rfl⟩ rfl rfl rfl rfl rfl (by kernel_rfl) Tryd.func9 (by kernel_rfl)
    (of_decide_eq_true (by kernel_rfl)) (by unfold Func.isWrapper; first | (rw [if_pos (by decide +kernel)]; kernel_rfl) | (rw [if_neg (by decide +kernel)]; exact ⟨rfl, rfl⟩))
    (fun os started H enc _ => lifted os started H enc)

theorem proved : Rows.HeapCollectsCardSaid :=
  Claim7.holds_tied_plain_at .later [] [.data] true (true, "d0be065d193a3fa1b56c4b771d487460df22bb6101bcc3db90dac086316fe3a6") false
    over (fun _ h => by cases h) (by kernel_rfl) (fun _ h => by cases h) heapCollects_row_tie rfl ⟨rfl, rfl⟩ (by kernel_rfl) rfl
    (fun f fn hf hfn => by
      obtain rfl : f = 9 := Option.some.inj ((show Tryd.prog.funcNamed "samovar/samovarlaw21.HeapCollects" = some 9 by kernel_rfl).symm.trans hf) |>.symm
      obtain rfl : fn = Tryd.f9 := (Option.some.inj (Tryd.func9.symm.trans hfn)).symm
      exact ⟨by kernel_rfl, fun j t ht => by
        rw [Tryd.params9] at ht
        have hm : t ∈ [58, 23, 5] := List.mem_of_getElem? (i := j) (by simpa using ht)
        have hall : ∀ t ∈ [58, 23, 5], Tryd.prog.wantsStandIn t = false := by
          intro t ht
          simp only [List.mem_cons, List.not_mem_nil, or_false] at ht
          rcases ht with rfl | rfl | rfl
          all_goals kernel_rfl
        exact hall t hm⟩)
    (by kernel_rfl)
#print axioms proved
end Go.Proofs.YtchbidckckmobaaDoor.heapCollects
