/- TopOverlaps, proved of every input: the given statement Rows.TopOverlapsCardSaid. No condition. -/
import Derived.Test.YtiapgmfooclpcaaDoorRows
import Derived.Test.YtiapgmfooclpcaaDoorCards
import Derived.Test.YtiapgmfooclpcaaDoorTie
import Derived.Test.YtiapgmfooclpcaaDoorZd
import Derived.Test.YtiapgmfooclpcaaDoorZe
import Derived.SevenTiedAt
namespace Go.Proofs.YtiapgmfooclpcaaDoor.topOverlaps
open Go.ChangeShapes Go.WideShapes Go.ChangeAt Go.RowKit
set_option linter.unusedVariables false
set_option linter.unusedSimpArgs false

theorem own : ownKnob Tryd.prog.godebug = none := by kernel_rfl
theorem laidOut : laidOutB Tryd.prog = true := by kernel_rfl

set_option maxRecDepth 100000 in
theorem lifted (os : Os) (started : os.Started) (H : Type) (enc : TypeId × Value → H) :
    ReturnsInHanded {} Tryd.checked os 4 .any (fun w args => (Rows.topOverlapsSpec.pre enc Tryd.prog Tryd.f4 [] false w args ∧ laidMetH Tryd.prog lst2 w) ∧ sizedMet enc Tryd.prog Tryd.f4 (OpenSpec.ofChange Rows.topOverlapsSpec) false w args)
      (Rows.topOverlapsSpec.post enc Tryd.prog Tryd.f4 false true false false) := by
  refine returnsInHanded_of_change_and (C := Tryd.checked) (X := fun w _ => laidMetH Tryd.prog lst2 w) (fun _ _ _ hh h => h.of_heap hh) own started (by kernel_rfl) Tryd.func4
    (ChangeSpec.witness_shaped (enc := enc) (C := Tryd.checked) (os := os) (X := fun w _ => laidMetH Tryd.prog lst2 w) false (laidWorld os) #[.slice none 0 0, .bool false] 8 rfl (World.shaped_of_RefB (by kernel_rfl) (by kernel_rfl)) (by kernel_rfl) (by kernel_rfl) (by kernel_rfl) (door_met2 os _)) ?_
  intro W base args ds gs before hval0 hW hcnd hsz0 hL _
  have hval : ∀ (j : Nat) t v, Tryd.f4.params[j]? = some t → args[j]? = some v → Value.okWide Tryd.prog W .any base t v := hval0
  have hsz : (DataW.weightsEach Tryd.prog (Tryd.f4.params.toList ++ Rows.topOverlapsSpec.plain.varTypes Tryd.prog) (ds ++ gs)).all (· ≤ reachBytes) = true := hsz0
  have hW' := hW
  obtain ⟨p, q, hA0, hV, rfl, hfz, hnd⟩ := hW
  have hA : DataW.TrodAll enc Tryd.prog W 0 (fun _ => true) true Tryd.f4.params.toList args.toList ds p := hA0
  rw [Tryd.params4] at hA hval hsz
  obtain ⟨v0, vs0, d0, ds0, p0, q0, hargs, rfl, rfl, h0, r0⟩ := trodAll_cons hA
  obtain ⟨v1, vs1, d1, ds1, p1, q1, rfl, rfl, rfl, h1, r1⟩ := trodAll_cons r0
  obtain ⟨rfl, rfl, rfl⟩ := trodAll_nil r1
  obtain rfl : args = #[v0, v1] := by cases args; simp_all
  obtain ⟨rfl, rfl⟩ := trodVars_none hV
  have k0 := h0
  have k1 := h1
  have ok0 := hval 0 25 v0 rfl rfl
  have ok1 := hval 1 4 v1 rfl rfl
  clear hval0 hA0
  obtain ⟨a0, n0, c0, z0, rfl, row0, rb0⟩ := E.op_row Tryd.underlying25 Tryd.underlying5 (by kernel_rfl) ok0 h0 (fun elems spare hd => sized_slice hsz (j := 0) (t := 25) (e := 5) rfl (by rw [hd]; rfl) Tryd.underlying25)
  rw [show Tryd.prog.bytesOf 5 = 1 from by kernel_rfl] at rb0
  obtain ⟨a1, rfl⟩ := E.op_bool Tryd.underlying4 ok1 h1
  have walk : Calls Tryd.prog 4 #[.slice a0 n0 c0, .bool a1] W (fun e w' => e = .returned (.bool true) ∧ Below W.heap.size W w') := by
    obtain ⟨l, hl, hl2, hl3, hR⟩ := E.row_u8 row0
    subst hl
    exact E.law_calls (over_ok _ _ _ l a1 hR hl2)
  refine walk.mono fun e W' ⟨he, bel⟩ => ?_
  subst he
  exact ⟨_, rfl, _, _, _, [], _, [], hW', trodAll_mk1 (shut_bool Tryd.underlying4 _), (trodAll_cons_mk (Below.trod laidOut (by kernel_rfl) (of_decide_eq_true (by kernel_rfl)) k0 bel (E.op_lt k0)) (trodAll_cons_mk (Below.trod laidOut (by kernel_rfl) (of_decide_eq_true (by kernel_rfl)) k1 bel (E.op_lt k1)) trodAll_mk0)), rfl, bel.frame _, fun h => by cases h⟩

theorem over : Rows.topOverlapsRow.holds Tryd.pinned (OpenSpec.ofChange Rows.topOverlapsSpec) :=
  OpenClaim.holds_of_wide 4 Tryd.f4 rfl rfl rfl rfl rfl rfl rfl ⟨rfl, rfl, rfl, rfl, rfl⟩ rfl rfl rfl rfl rfl (by kernel_rfl) Tryd.func4 (by kernel_rfl)
    (of_decide_eq_true (by kernel_rfl)) (by unfold Func.isWrapper; first | (rw [if_pos (by decide +kernel)]; kernel_rfl) | (rw [if_neg (by decide +kernel)]; exact ⟨rfl, rfl⟩))
    (fun os started H enc _ => lifted os started H enc)

theorem proved : Rows.TopOverlapsCardSaid :=
  Claim7.holds_tied_plain_at .later [] [.data, .pinned] true (true, "2c7b0096dc66b73c719c0a72a31da2e80c869b136431ccc6f0b69c0723cf54ba") false
    over (fun _ h => by cases h) (by kernel_rfl) (fun _ h => by cases h) topOverlaps_row_tie rfl ⟨rfl, rfl⟩ (by kernel_rfl) rfl
    (fun f fn hf hfn => by
      obtain rfl : f = 4 := Option.some.inj ((show Tryd.prog.funcNamed "samovar/samovartop.TopOverlaps" = some 4 by kernel_rfl).symm.trans hf) |>.symm
      obtain rfl : fn = Tryd.f4 := (Option.some.inj (Tryd.func4.symm.trans hfn)).symm
      exact ⟨by kernel_rfl, fun j t ht => by
        rw [Tryd.params4] at ht
        have hm : t ∈ [25, 4] := List.mem_of_getElem? (i := j) (by simpa using ht)
        have hall : ∀ t ∈ [25, 4], Tryd.prog.wantsStandIn t = false := by
          intro t ht
          simp only [List.mem_cons, List.not_mem_nil, or_false] at ht
          rcases ht with rfl | rfl
          all_goals kernel_rfl
        exact hall t hm⟩)
    (by kernel_rfl)
#print axioms proved
end Go.Proofs.YtiapgmfooclpcaaDoor.topOverlaps
