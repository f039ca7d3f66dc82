/- TopDisagree, proved of every input: the given statement Rows.TopDisagreeCardSaid. No condition. -/
import Derived.Test.YtiapgmfooclpcaaDoorRows
import Derived.Test.YtiapgmfooclpcaaDoorCards
import Derived.Test.YtiapgmfooclpcaaDoorTie
import Derived.Test.YtiapgmfooclpcaaDoorZd
import Derived.SevenTiedAt
namespace Go.Proofs.YtiapgmfooclpcaaDoor.topDisagree
open Go.ChangeShapes Go.WideShapes Go.ChangeAt Go.RowKit
set_option linter.unusedVariables false
set_option linter.unusedSimpArgs false

theorem own : ownKnob Tryd.prog.godebug = none := by kernel_rfl
theorem laidOut : laidOutB Tryd.prog = true := by kernel_rfl

set_option maxRecDepth 100000 in
theorem lifted (os : Os) (started : os.Started) (H : Type) (enc : TypeId × Value → H) :
    ReturnsInHanded {} Tryd.checked os 3 .any (fun w args => (Rows.topDisagreeSpec.pre enc Tryd.prog Tryd.f3 [] false w args ∧ laidMetH Tryd.prog lst2 w) ∧ sizedMet enc Tryd.prog Tryd.f3 (OpenSpec.ofChange Rows.topDisagreeSpec) false w args)
      (Rows.topDisagreeSpec.post enc Tryd.prog Tryd.f3 false true false false) := by
  refine returnsInHanded_of_change_and (C := Tryd.checked) (X := fun w _ => laidMetH Tryd.prog lst2 w) (fun _ _ _ hh h => h.of_heap hh) own started (by kernel_rfl) Tryd.func3
    (ChangeSpec.witness_shaped (enc := enc) (C := Tryd.checked) (os := os) (X := fun w _ => laidMetH Tryd.prog lst2 w) false (laidWorld os) #[.slice none 0 0, .int .u8 0, .int .u8 0, .int .u8 0] 8 rfl (World.shaped_of_RefB (by kernel_rfl) (by kernel_rfl)) (by kernel_rfl) (by kernel_rfl) (by kernel_rfl) (door_met2 os _)) ?_
  intro W base args ds gs before hval0 hW hcnd hsz0 hL _
  have hval : ∀ (j : Nat) t v, Tryd.f3.params[j]? = some t → args[j]? = some v → Value.okWide Tryd.prog W .any base t v := hval0
  have hsz : (DataW.weightsEach Tryd.prog (Tryd.f3.params.toList ++ Rows.topDisagreeSpec.plain.varTypes Tryd.prog) (ds ++ gs)).all (· ≤ reachBytes) = true := hsz0
  have hW' := hW
  obtain ⟨p, q, hA0, hV, rfl, hfz, hnd⟩ := hW
  have hA : DataW.TrodAll enc Tryd.prog W 0 (fun _ => true) true Tryd.f3.params.toList args.toList ds p := hA0
  rw [Tryd.params3] at hA hval hsz
  obtain ⟨v0, vs0, d0, ds0, p0, q0, hargs, rfl, rfl, h0, r0⟩ := trodAll_cons hA
  obtain ⟨v1, vs1, d1, ds1, p1, q1, rfl, rfl, rfl, h1, r1⟩ := trodAll_cons r0
  obtain ⟨v2, vs2, d2, ds2, p2, q2, rfl, rfl, rfl, h2, r2⟩ := trodAll_cons r1
  obtain ⟨v3, vs3, d3, ds3, p3, q3, rfl, rfl, rfl, h3, r3⟩ := trodAll_cons r2
  obtain ⟨rfl, rfl, rfl⟩ := trodAll_nil r3
  obtain rfl : args = #[v0, v1, v2, v3] := by cases args; simp_all
  obtain ⟨rfl, rfl⟩ := trodVars_none hV
  have k0 := h0
  have k1 := h1
  have k2 := h2
  have k3 := h3
  have ok0 := hval 0 22 v0 rfl rfl
  have ok1 := hval 1 5 v1 rfl rfl
  have ok2 := hval 2 5 v2 rfl rfl
  have ok3 := hval 3 5 v3 rfl rfl
  clear hval0 hA0
  obtain ⟨a1, rfl, bd1⟩ := E.op_int Tryd.underlying5 ok1 h1
  simp only [IntKind.min, IntKind.max, IntKind.signed, IntKind.bits] at bd1
  obtain ⟨a2, rfl, bd2⟩ := E.op_int Tryd.underlying5 ok2 h2
  simp only [IntKind.min, IntKind.max, IntKind.signed, IntKind.bits] at bd2
  obtain ⟨a3, rfl, bd3⟩ := E.op_int Tryd.underlying5 ok3 h3
  simp only [IntKind.min, IntKind.max, IntKind.signed, IntKind.bits] at bd3
  have walk : Calls Tryd.prog 3 #[v0, .int .u8 a1, .int .u8 a2, .int .u8 a3] W (fun e w' => e = .returned (.bool true) ∧ Below W.heap.size W w') := by
    obtain ⟨a0, c0, l, rfl, hI, hn, hl⟩ := items_of ok0 h0 (fun n hn => by have := List.all_eq_true.1 hsz n (DataW.weights_mem_each (j := 0) rfl rfl n hn); simpa using this)
    obtain ⟨x1, rfl⟩ : ∃ x : BitVec 8, a1 = (x.toNat : Int) := ⟨BitVec.ofInt 8 a1, by rw [BitVec.toNat_ofInt]; simp at bd1; omega⟩
    obtain ⟨x2, rfl⟩ : ∃ x : BitVec 8, a2 = (x.toNat : Int) := ⟨BitVec.ofInt 8 a2, by rw [BitVec.toNat_ofInt]; simp at bd2; omega⟩
    obtain ⟨x3, rfl⟩ : ∃ x : BitVec 8, a3 = (x.toNat : Int) := ⟨BitVec.ofInt 8 a3, by rw [BitVec.toNat_ofInt]; simp at bd3; omega⟩
    exact E.law_calls (dis_ok _ a0 c0 l x1 x2 x3 hI hn hl)
  refine walk.mono fun e W' ⟨he, bel⟩ => ?_
  subst he
  exact ⟨_, rfl, _, _, _, [], _, [], hW', trodAll_mk1 (shut_bool Tryd.underlying4 _), (trodAll_cons_mk (Below.trod laidOut (by kernel_rfl) (of_decide_eq_true (by kernel_rfl)) k0 bel (E.op_lt k0)) (trodAll_cons_mk (Below.trod laidOut (by kernel_rfl) (of_decide_eq_true (by kernel_rfl)) k1 bel (E.op_lt k1)) (trodAll_cons_mk (Below.trod laidOut (by kernel_rfl) (of_decide_eq_true (by kernel_rfl)) k2 bel (E.op_lt k2)) (trodAll_cons_mk (Below.trod laidOut (by kernel_rfl) (of_decide_eq_true (by kernel_rfl)) k3 bel (E.op_lt k3)) trodAll_mk0)))), rfl, bel.frame _, fun h => by cases h⟩

theorem over : Rows.topDisagreeRow.holds Tryd.pinned (OpenSpec.ofChange Rows.topDisagreeSpec) :=
  OpenClaim.holds_of_wide 3 Tryd.f3 rfl rfl rfl rfl rfl rfl rfl ⟨rfl, rfl, rfl, rfl, rfl⟩ rfl rfl rfl rfl rfl (by kernel_rfl) Tryd.func3 (by kernel_rfl)
    (of_decide_eq_true (by kernel_rfl)) (by unfold Func.isWrapper; first | (rw [if_pos (by decide +kernel)]; kernel_rfl) | (rw [if_neg (by decide +kernel)]; exact ⟨rfl, rfl⟩))
    (fun os started H enc _ => lifted os started H enc)

theorem proved : Rows.TopDisagreeCardSaid :=
  Claim7.holds_tied_plain_at .later [] [.data, .pinned] true (true, "2c7b0096dc66b73c719c0a72a31da2e80c869b136431ccc6f0b69c0723cf54ba") false
    over (fun _ h => by cases h) (by kernel_rfl) (fun _ h => by cases h) topDisagree_row_tie rfl ⟨rfl, rfl⟩ (by kernel_rfl) rfl
    (fun f fn hf hfn => by
      obtain rfl : f = 3 := Option.some.inj ((show Tryd.prog.funcNamed "samovar/samovartop.TopDisagree" = some 3 by kernel_rfl).symm.trans hf) |>.symm
      obtain rfl : fn = Tryd.f3 := (Option.some.inj (Tryd.func3.symm.trans hfn)).symm
      exact ⟨by kernel_rfl, fun j t ht => by
        rw [Tryd.params3] at ht
        have hm : t ∈ [22, 5, 5, 5] := List.mem_of_getElem? (i := j) (by simpa using ht)
        have hall : ∀ t ∈ [22, 5, 5, 5], Tryd.prog.wantsStandIn t = false := by
          intro t ht
          simp only [List.mem_cons, List.not_mem_nil, or_false] at ht
          rcases ht with rfl | rfl | rfl | rfl
          all_goals kernel_rfl
        exact hall t hm⟩)
    (by kernel_rfl)
#print axioms proved
end Go.Proofs.YtiapgmfooclpcaaDoor.topDisagree
