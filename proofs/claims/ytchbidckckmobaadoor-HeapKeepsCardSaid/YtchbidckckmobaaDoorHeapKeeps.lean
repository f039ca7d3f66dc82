/- HeapKeeps, proved of every input: the given statement Rows.HeapKeepsCardSaid. No condition. -/
import Derived.Test.YtchbidckckmobaaDoorRows
import Derived.Test.YtchbidckckmobaaDoorCards
import Derived.Test.YtchbidckckmobaaDoorTie
import Derived.Test.YtchbidckckmobaaDoorZc
import Derived.Test.YtchbidckckmobaaDoorZe
import Derived.SevenTiedAt
namespace Go.Proofs.YtchbidckckmobaaDoor.heapKeeps
open Go.ChangeShapes Go.WideShapes Go.ChangeAt Go.RowKit
set_option linter.unusedVariables false
set_option linter.unusedSimpArgs false

theorem own : ownKnob Tryd.prog.godebug = none := by kernel_rfl
theorem laidOut : laidOutB Tryd.prog = true := by kernel_rfl

set_option maxRecDepth 100000 in
theorem lifted (os : Os) (started : os.Started) (H : Type) (enc : TypeId × Value → H) :
    ReturnsInHanded {} Tryd.checked os 7 .any (fun w args => (Rows.heapKeepsSpec.pre enc Tryd.prog Tryd.f7 [] false w args ∧ laidMetH Tryd.prog lst1 w) ∧ sizedMet enc Tryd.prog Tryd.f7 (OpenSpec.ofChange Rows.heapKeepsSpec) false w args)
      (Rows.heapKeepsSpec.post enc Tryd.prog Tryd.f7 false true false false) := by
  refine returnsInHanded_of_change_and (C := Tryd.checked) (X := fun w _ => laidMetH Tryd.prog lst1 w) (fun _ _ _ hh h => h.of_heap hh) own started (by kernel_rfl) Tryd.func7
    (ChangeSpec.witness_shaped (enc := enc) (C := Tryd.checked) (os := os) (X := fun w _ => laidMetH Tryd.prog lst1 w) false (World.doorLaid Tryd.prog 24 os) #[.slice none 0 0, .slice none 0 0] 8 rfl (World.shaped_of_RefB (by kernel_rfl) (by kernel_rfl)) (by kernel_rfl) (by kernel_rfl) (by kernel_rfl) (door_met1 os _)) ?_
  intro W base args ds gs before hval0 hW hcnd hsz0 hL _
  have hval : ∀ (j : Nat) t v, Tryd.f7.params[j]? = some t → args[j]? = some v → Value.okWide Tryd.prog W .any base t v := hval0
  have hsz : (DataW.weightsEach Tryd.prog (Tryd.f7.params.toList ++ Rows.heapKeepsSpec.plain.varTypes Tryd.prog) (ds ++ gs)).all (· ≤ reachBytes) = true := hsz0
  have hW' := hW
  obtain ⟨p, q, hA0, hV, rfl, hfz, hnd⟩ := hW
  have hA : DataW.TrodAll enc Tryd.prog W 0 (fun _ => true) true Tryd.f7.params.toList args.toList ds p := hA0
  rw [Tryd.params7] at hA hval hsz
  obtain ⟨v0, vs0, d0, ds0, p0, q0, hargs, rfl, rfl, h0, r0⟩ := trodAll_cons hA
  obtain ⟨v1, vs1, d1, ds1, p1, q1, rfl, rfl, rfl, h1, r1⟩ := trodAll_cons r0
  obtain ⟨rfl, rfl, rfl⟩ := trodAll_nil r1
  obtain rfl : args = #[v0, v1] := by cases args; simp_all
  obtain ⟨rfl, rfl⟩ := trodVars_none hV
  have k0 := h0
  have k1 := h1
  have ok0 := hval 0 34 v0 rfl rfl
  have ok1 := hval 1 40 v1 rfl rfl
  clear hval0 hA0
  obtain ⟨a0, n0, c0, z0, rfl, row0, rb0⟩ := E.op_row Tryd.underlying34 Tryd.underlying5 (by kernel_rfl) ok0 h0 (fun elems spare hd => sized_slice hsz (j := 0) (t := 34) (e := 5) rfl (by rw [hd]; rfl) Tryd.underlying34)
  rw [show Tryd.prog.bytesOf 5 = 1 from by kernel_rfl] at rb0
  have walk : Calls Tryd.prog 7 #[.slice a0 n0 c0, v1] W (fun e w' => e = .returned (.bool true) ∧ Below W.heap.size W w') := by
    obtain ⟨y, hy, g6, g7, gR⟩ := E.row_u8 row0
    subst hy
    obtain ⟨a1, n1, c1, css, rfl, hcl, hlc, hcm, hby, h7, hR1, hTr⟩ := E.op_deep Tryd.underlying40 (sz := 2) (by kernel_rfl) (by decide) ok1 h1 (E.fit_of hsz (j := 1) (t := 40) rfl rfl)
    obtain ⟨sts, hal, hac⟩ := pairs_of h7 hTr
    subst hac
    obtain rfl : sts.length = n1 := by rw [hal]; exact hcl
    exact E.law_calls (hkeeps_ok _ _ _ y a1 c1 sts gR (by omega) hR1 (by omega) (tabtz_of hL))
  refine walk.mono fun e W' ⟨he, bel⟩ => ?_
  subst he
  exact ⟨_, rfl, _, _, _, [], _, [], hW', trodAll_mk1 (shut_bool Tryd.underlying4 _), (trodAll_cons_mk (Below.trod laidOut (by kernel_rfl) (of_decide_eq_true (by kernel_rfl)) k0 bel (E.op_lt k0)) (trodAll_cons_mk (Below.trod laidOut (by kernel_rfl) (of_decide_eq_true (by kernel_rfl)) k1 bel (E.op_lt k1)) trodAll_mk0)), rfl, bel.frame _, fun h => by cases h⟩

theorem over : Rows.heapKeepsRow.holds Tryd.pinned (OpenSpec.ofChange Rows.heapKeepsSpec) :=
  OpenClaim.holds_of_wide 7 Tryd.f7 rfl rfl rfl rfl rfl rfl rfl ⟨rfl, rfl, rfl, rfl, rfl⟩ rfl rfl rfl rfl rfl (by kernel_rfl) Tryd.func7 (by kernel_rfl)
    (of_decide_eq_true (by kernel_rfl)) (by unfold Func.isWrapper; first | (rw [if_pos (by decide +kernel)]; kernel_rfl) | (rw [if_neg (by decide +kernel)]; exact ⟨rfl, rfl⟩))
    (fun os started H enc _ => lifted os started H enc)

theorem proved : Rows.HeapKeepsCardSaid :=
  Claim7.holds_tied_plain_at .later [] [.data] true (true, "d0be065d193a3fa1b56c4b771d487460df22bb6101bcc3db90dac086316fe3a6") false
    over (fun _ h => by cases h) (by kernel_rfl) (fun _ h => by cases h) heapKeeps_row_tie rfl ⟨rfl, rfl⟩ (by kernel_rfl) rfl
    (fun f fn hf hfn => by
      obtain rfl : f = 7 := Option.some.inj ((show Tryd.prog.funcNamed "samovar/samovarlaw21.HeapKeeps" = some 7 by kernel_rfl).symm.trans hf) |>.symm
      obtain rfl : fn = Tryd.f7 := (Option.some.inj (Tryd.func7.symm.trans hfn)).symm
      exact ⟨by kernel_rfl, fun j t ht => by
        rw [Tryd.params7] at ht
        have hm : t ∈ [34, 40] := List.mem_of_getElem? (i := j) (by simpa using ht)
        have hall : ∀ t ∈ [34, 40], Tryd.prog.wantsStandIn t = false := by
          intro t ht
          simp only [List.mem_cons, List.not_mem_nil, or_false] at ht
          rcases ht with rfl | rfl
          all_goals kernel_rfl
        exact hall t hm⟩)
    (by kernel_rfl)
#print axioms proved
end Go.Proofs.YtchbidckckmobaaDoor.heapKeeps
