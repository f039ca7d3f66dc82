/- Regions whose order is drawn: one walk in the order of the text serves every order. Two forms: every operation quiet in a class of worlds; every operation by a lasting fact. No condition. -/
import Derived.Test.YtbfphjhahgpndaaMem
namespace Go.Proofs.Ytbfphjhahgpndaa
open Go.RowKit
set_option linter.unusedVariables false
set_option linter.unusedSimpArgs false
namespace E

variable {P : Program} {n : Nat} {R : Exit → Env → World → Prop} {k : List KI} {e : Env} {w : World}

/-- what an operation waits for -/
def deps (o : Oper) : List Nat := (o.after.toList.filter (fun x => Region.binds .any x)).map (·.on)
def backB (i : Nat) : List Oper → Bool
  | [] => true
  | o :: l => (deps o).all (fun j => Nat.blt j i) && backB (i + 1) l

theorem backB_spec : ∀ (l : List Oper) (i0 : Nat), backB i0 l = true → ∀ i o, l[i]? = some o → ∀ j ∈ deps o, j < i0 + i
  | [], _, _, i, o, h => by simp at h
  | o' :: l, i0, hb, i, o, h => by
    simp only [backB, Bool.and_eq_true, List.all_eq_true] at hb
    cases i with
    | zero =>
      simp at h
      subst h
      intro j hj
      have := hb.1 j hj
      rw [Nat.blt_eq] at this
      omega
    | succ i =>
      simp at h
      intro j hj
      have := backB_spec l (i0 + 1) hb.2 i o h j hj
      omega

theorem mem_deps {o : Oper} {x : Edge} (h : x ∈ o.after) (hb : Region.binds .any x = true) : x.on ∈ deps o := by
  unfold deps
  exact List.mem_map.2 ⟨x, List.mem_filter.2 ⟨by simpa using h, hb⟩, rfl⟩

/-- every order, by an invariant over what has been done -/
theorem k_core {id : Nat} {l : List Oper} (hm : P.follows .mixedOrders = true) (hb : backB 0 l = true) (I : (Nat → Bool) → Env → World → Prop)
    (h0 : I (fun _ => false) e w.drew)
    (hstep : ∀ D e w i o, l[i]? = some o → D i = false → (∀ j ∈ deps o, D j = true) → I D e w → ow P n l (fun e' w' => I (fun x => if x = i then true else D x) e' w') [o] e w)
    (hend : ∀ D e w, (∀ i, i < l.length → D i = true) → I D e w → kw P n R k e w) :
    kw P n R (.code (.region id l.toArray true) :: k) e w := by
  have key : ∀ (fuel : Nat) (listed : Array Bool) (e : Env) (w : World), listed.size = l.length → ((List.range l.length).filter (fun i => listed.getD i true = false)).length = fuel → I (fun x => listed.getD x false) e w →
      wpAny P .any l.toArray (fun x a w' => ∃ e', a = act n e' ∧ kq P n R k x e' w') fuel listed (act n e) w := by
    intro fuel
    induction fuel with
    | zero =>
      intro listed e w hs hc hI
      have hall : ∀ i, i < l.length → listed.getD i false = true := by
        intro i hi
        have hnil := List.eq_nil_of_length_eq_zero hc
        have := List.filter_eq_nil_iff.1 hnil i (List.mem_range.2 hi)
        have hi' : i < listed.size := by omega
        simpa [Array.getD, hi'] using this
      refine ⟨?_, e, rfl, hend _ e w hall hI⟩
      apply List.eq_nil_iff_forall_not_mem.2
      intro j hj
      obtain ⟨h1, o, ho, _⟩ := mem_ready.1 hj
      have hj' : j < l.length := by
        have := (Array.getElem?_eq_some_iff.1 ho).1
        simpa using this
      have h2 := hall j hj'
      have hi' : j < listed.size := by omega
      simp [Array.getD, hi'] at h1 h2
      rw [h1] at h2
      cases h2
    | succ fuel ih =>
      intro listed e w hs hc hI
      refine ⟨fun hr => ?_, fun i hi => ?_⟩
      · -- some operation is ready
        exfalso
        have hne : (List.range l.length).filter (fun i => listed.getD i true = false) ≠ [] := by
          intro h0; rw [h0] at hc; simp at hc
        have hex : ∃ i, i < l.length ∧ listed.getD i true = false := by
          obtain ⟨i, hi⟩ := List.exists_mem_of_ne_nil _ hne
          obtain ⟨h1, h2⟩ := List.mem_filter.1 hi
          exact ⟨i, List.mem_range.1 h1, by simpa using h2⟩
        obtain ⟨i, ⟨hi1, hi2⟩, hmin⟩ := exists_least hex
        have ho : l.toArray[i]? = some l[i] := by simp [hi1]
        have : i ∈ Region.ready .any l.toArray listed := by
          refine mem_ready.2 ⟨hi2, l[i], ho, fun x hx hbx => ?_⟩
          have hlt := backB_spec l 0 hb i l[i] (by simp [hi1]) x.on (mem_deps hx hbx)
          have hx' : x.on < listed.size := by omega
          cases hv : listed.getD x.on false with
          | true => rfl
          | false =>
            have := hmin x.on ⟨by omega, by simpa [Array.getD, hx'] using hv⟩
            omega
        rw [hr] at this
        cases this
      · obtain ⟨h1, o, ho, hdep⟩ := mem_ready.1 hi
        have ho' : l[i]? = some o := by simpa using ho
        have hil : i < l.length := (List.getElem?_eq_some_iff.1 ho').1
        have hD : listed.getD i false = false := by
          have : i < listed.size := by omega
          simpa [Array.getD, this] using h1
        have hdeps : ∀ j ∈ deps o, listed.getD j false = true := by
          intro j hj
          unfold deps at hj
          obtain ⟨x, hx, rfl⟩ := List.mem_map.1 hj
          obtain ⟨hx1, hx2⟩ := List.mem_filter.1 hx
          exact hdep x (by simpa using hx1) (by simpa using hx2)
        have hst := hstep (fun x => listed.getD x false) e w i o ho' hD hdeps hI
        have hset : (fun x => if x = i then true else listed.getD x false) = fun x => (listed.setIfInBounds i true).getD x false := by
          funext x
          have : i < listed.size := by omega
          by_cases hx : x = i
          · subst hx; simp [this]
          · simp [hx, Ne.symm hx]
        have hcnt : ((List.range l.length).filter (fun j => (listed.setIfInBounds i true).getD j true = false)).length = fuel := by
          have hx : (List.range l.length).filter (fun j => (listed.setIfInBounds i true).getD j true = false) = ((List.range l.length).filter (fun j => listed.getD j true = false)).erase i := by
            rw [List.Nodup.erase_eq_filter (List.Pairwise.filter _ (List.nodup_range)), List.filter_filter]
            apply List.filter_congr
            intro j hj
            have hjl := List.mem_range.1 hj
            have h1 : i < listed.size := by omega
            by_cases hji : j = i
            · subst hji; simp [h1]
            · simp [hji, Ne.symm hji]
          rw [hx, List.length_erase_of_mem (List.mem_filter.2 ⟨List.mem_range.2 hil, by simpa using h1⟩), hc]
          simp
        rw [hset] at hst
        have hw : wpList P l.toArray (fun x a w' => x = .normal ∧ ∃ e', a = act n e' ∧ I (fun x => (listed.setIfInBounds i true).getD x false) e' w') [o] (act n e) w :=
          wpList_of_ow (fun e w hk => ⟨rfl, e, rfl, hk⟩) [o] e w hst
        unfold wpOp
        simp only [ho]
        unfold wpList at hw
        split
        · rename_i hwt
          rw [if_pos hwt] at hw
          rcases hw with hw | ⟨_, a', w', hq, _⟩
          · refine .inl ?_
            unfold Oper.wp at hw ⊢
            generalize (execOp (act n e).eval o).run P w = r at hw
            cases r with
            | ok nx w' =>
              cases nx <;> simp only [Oper.upon] at hw ⊢
              all_goals first
                | (obtain ⟨_, e', he', hI'⟩ := (hw : _ ∧ _); rw [he']; exact ih _ e' _ (by simp [hs]) hcnt hI')
                | skip
              case enter f args =>
                refine Calls.mono hw fun x w'' hx => ?_
                cases x with
                | returned v =>
                  obtain ⟨_, e', he', hI'⟩ := hx
                  show wpAny P .any l.toArray _ fuel _ ((act n e).put o.dst v) w''
                  rw [he']
                  exact ih _ e' _ (by simp [hs]) hcnt hI'
                | panicked c => exact absurd hx.1 (by simp)
                | outgrown => obtain ⟨a', w', hq, _⟩ := hx; exact absurd hq (by simp)
              case row r args =>
                exact Rows.mono hw fun v w'' hx => by
                  obtain ⟨_, e', he', hI'⟩ := hx
                  rw [he']
                  exact ih _ e' _ (by simp [hs]) hcnt hI'
            | halt hh w' => cases hh <;> simp only [Oper.upon] at hw ⊢ <;> first | exact hw.elim | exact absurd hw.1 (by simp)
          · exact absurd hq (by simp)
        · rename_i hwt
          rw [if_neg hwt] at hw
          obtain ⟨_, e', he', hI'⟩ := (hw : _ ∧ _)
          rw [he']
          exact ih _ e' _ (by simp [hs]) hcnt hI'
  refine wp_region_any hm ?_
  have := key l.length (Array.replicate l.length false) e w.drew (by simp) (by
    rw [List.filter_eq_self.2]
    · simp
    · intro i hi
      have := List.mem_range.1 hi
      simp [this]) (by
    have hf : (fun x => (Array.replicate l.length false).getD x false) = fun _ => false := by
      funext x
      by_cases hx : x < l.length <;> simp [hx]
    rw [hf]
    exact h0)
  simpa using this

/-- what has been done holds what it waits for -/
def Shut (l : List Oper) (D : Nat → Bool) : Prop := ∀ i o, l[i]? = some o → D i = true → ∀ j ∈ deps o, D j = true
theorem k_core2 {id : Nat} {l : List Oper} (hm : P.follows .mixedOrders = true) (hb : backB 0 l = true) (I : (Nat → Bool) → Env → World → Prop)
    (h0 : I (fun _ => false) e w.drew)
    (hstep : ∀ D e w i o, l[i]? = some o → D i = false → (∀ j ∈ deps o, D j = true) → Shut l D → I D e w → ow P n l (fun e' w' => I (fun x => if x = i then true else D x) e' w') [o] e w)
    (hend : ∀ D e w, (∀ i, i < l.length → D i = true) → I D e w → kw P n R k e w)
    (omono : ∀ {l0 : List Oper} {K K' : Env → World → Prop}, (∀ e w, K e w → K' e w) → ∀ {l : List Oper} {e : Env} {w : World}, ow P n l0 K l e w → ow P n l0 K' l e w) :
    kw P n R (.code (.region id l.toArray true) :: k) e w := by
  refine k_core hm hb (fun D e w => Shut l D ∧ I D e w) ⟨fun i o _ h => by simp at h, h0⟩ ?_ (fun D e w h hI => hend D e w h hI.2)
  intro D e w i o hl hD hdep hI
  refine omono (fun e' w' h => ⟨?_, h⟩) (hstep D e w i o hl hD hdep hI.1 hI.2)
  intro i' o' hl' hi' j hj
  by_cases hi : i' = i
  · subst hi
    obtain rfl := Option.some.inj (hl.symm.trans hl')
    simp only
    split
    · rfl
    · exact hdep j hj
  · simp only [hi, if_false] at hi'
    simp only
    split
    · rfl
    · exact hI.1 i' o' hl' hi' j hj

/-! ### ahead any order, behind it the order of the text -/
/-- what an operation waits for, through others too, as a number's bits -/
def mkM (acc : List Nat) (o : Oper) : Nat := (deps o).foldl (fun a j => Nat.lor a (Nat.lor (2 ^ j) (acc.getD j 0))) 0
def cloM : List Oper → List Nat → List Nat
  | [], acc => acc
  | o :: l, acc => cloM l (acc ++ [mkM acc o])
def chkM (m : Nat) : Nat → List Nat → Bool
  | _, [] => true
  | i, x :: xs => (Nat.blt i m || Nat.beq (Nat.land x (2 ^ i - 1)) (2 ^ i - 1)) && chkM m (i + 1) xs
def tailB (m : Nat) (i : Nat) (l : List Oper) : Bool := chkM m i (cloM l [])

theorem mkM_bit (acc : List Nat) (o : Oper) (j : Nat) (h : (mkM acc o).testBit j = true) : ∃ d ∈ deps o, j = d ∨ (acc.getD d 0).testBit j = true := by
  unfold mkM at h
  have key : ∀ (L : List Nat) (a : Nat), (L.foldl (fun a j => Nat.lor a (Nat.lor (2 ^ j) (acc.getD j 0))) a).testBit j = true → a.testBit j = true ∨ ∃ d ∈ L, j = d ∨ (acc.getD d 0).testBit j = true := by
    intro L
    induction L with
    | nil => intro a h; exact .inl h
    | cons d L ih =>
      intro a h
      rcases ih _ h with h | ⟨d', hd, h⟩
      · have h' : (a ||| (2 ^ d ||| acc.getD d 0)).testBit j = true := h
        rw [Nat.testBit_or, Nat.testBit_or, Bool.or_eq_true, Bool.or_eq_true, Nat.testBit_two_pow] at h'
        rcases h' with h' | h' | h'
        · exact .inl h'
        · exact .inr ⟨d, by simp, .inl (of_decide_eq_true h').symm⟩
        · exact .inr ⟨d, by simp, .inr h'⟩
      · exact .inr ⟨d', by simp [hd], h⟩
  rcases key _ _ h with h | h
  · simp at h
  · exact h

theorem cloM_spec (L : List Oper) (D : Nat → Bool) (hD : Shut L D) : ∀ (l : List Oper) (acc : List Nat), L.drop acc.length = l →
    (∀ i o, i < acc.length → L[i]? = some o → (∀ d ∈ deps o, D d = true) → ∀ j, (acc.getD i 0).testBit j = true → D j = true) →
    ∀ i o, L[i]? = some o → (∀ d ∈ deps o, D d = true) → ∀ j, ((cloM l acc).getD i 0).testBit j = true → D j = true
  | [], acc, hl, h, i, o, ho, hd, j, hj => by
    have hlen : L.length ≤ acc.length := by
      have := congrArg List.length hl
      simp at this
      omega
    have := (List.getElem?_eq_some_iff.1 ho).1
    exact h i o (by omega) ho hd j hj
  | q :: l, acc, hl, h, i, o, ho, hd, j, hj => by
    unfold cloM at hj
    have hq : L[acc.length]? = some q := by
      have := congrArg (fun x => x[0]?) hl
      simpa using this
    refine cloM_spec L D hD l (acc ++ [mkM acc q]) ?_ ?_ i o ho hd j hj
    · rw [List.length_append, List.length_singleton, ← List.drop_drop, hl]
      rfl
    · intro i o hi ho hd j hj
      by_cases hlt : i < acc.length
      · rw [List.getD_eq_getElem?_getD, List.getElem?_append_left hlt, ← List.getD_eq_getElem?_getD] at hj
        exact h i o hlt ho hd j hj
      · have hi' : i = acc.length := by simp at hi; omega
        subst hi'
        obtain rfl := Option.some.inj (hq.symm.trans ho)
        have e : (acc ++ [mkM acc q]).getD acc.length 0 = mkM acc q := by simp [List.getD_eq_getElem?_getD]
        rw [e] at hj
        obtain ⟨d, hdm, h'⟩ := mkM_bit acc q j hj
        rcases h' with rfl | h'
        · exact hd _ hdm
        · by_cases hda : d < acc.length
          · obtain ⟨od, hod⟩ : ∃ od, L[d]? = some od := by
              have := (List.getElem?_eq_some_iff.1 hq).1
              exact ⟨L[d]'(by omega), List.getElem?_eq_getElem _⟩
            exact h d od hda hod (hD d od hod (hd d hdm)) j h'
          · rw [List.getD_eq_getElem?_getD, List.getElem?_eq_none (by omega)] at h'
            simp at h'

theorem chkM_spec (m : Nat) : ∀ (xs : List Nat) (i0 : Nat), chkM m i0 xs = true → ∀ i, i < xs.length → m ≤ i0 + i → ∀ j, j < i0 + i → (xs.getD i 0).testBit j = true
  | [], _, _, i, h => by simp at h
  | x :: xs, i0, hb, i, h => by
    simp only [chkM, Bool.and_eq_true, Bool.or_eq_true] at hb
    cases i with
    | zero =>
      intro hm j hj
      rcases hb.1 with h1 | h1
      · rw [Nat.blt_eq] at h1; omega
      · have h2 : x &&& (2 ^ i0 - 1) = 2 ^ i0 - 1 := Nat.eq_of_beq_eq_true h1
        have h3 := congrArg (fun y => y.testBit j) h2
        simp only [Nat.testBit_and, Nat.testBit_two_pow_sub_one] at h3
        have hj' : j < i0 := by omega
        simpa [hj'] using h3
    | succ i =>
      intro hm j hj
      have := chkM_spec m xs (i0 + 1) hb.2 i (by simpa using h) (by omega) j (by omega)
      simpa using this
theorem cloM_len : ∀ (l : List Oper) (acc : List Nat), (cloM l acc).length = acc.length + l.length
  | [], acc => by simp [cloM]
  | o :: l, acc => by unfold cloM; rw [cloM_len l]; simp; omega
theorem tailB_spec (m : Nat) (l : List Oper) (h : tailB m 0 l = true) (i : Nat) (o : Oper) (hl : l[i]? = some o) (hm : m ≤ i) (D : Nat → Bool) (hD : Shut l D) (hd : ∀ d ∈ deps o, D d = true) : ∀ j, j < i → D j = true := by
  intro j hj
  refine cloM_spec l D hD l [] rfl (fun i o hi => by simp at hi) i o hl hd j ?_
  exact chkM_spec m _ 0 h i (by rw [cloM_len]; have := (List.getElem?_eq_some_iff.1 hl).1; simpa using this) (by omega) j (by omega)

/-- the slots that the first m operations write: each one of its own -/
def dsts (l : List Oper) : List (Option Nat) := l.map (·.dst)
def ownB : List (Option Nat) → Bool
  | [] => true
  | some d :: r => !(r.any (fun x => match x with | some y => Nat.beq d y | none => false)) && ownB r
  | none :: r => ownB r

theorem ownB_spec : ∀ (r : List (Option Nat)), ownB r = true → ∀ (i j d : Nat), r[i]? = some (some d) → r[j]? = some (some d) → i = j
  | [], _, i, j, d, h1, _ => by simp at h1
  | none :: r, h, i, j, d, h1, h2 => by
    cases i with
    | zero => simp at h1
    | succ i =>
      cases j with
      | zero => simp at h2
      | succ j =>
        simp at h1 h2
        rw [ownB_spec r h i j d h1 h2]
  | some a :: r, h, i, j, d, h1, h2 => by
    simp only [ownB, Bool.and_eq_true, Bool.not_eq_true'] at h
    have hno : ∀ x, some x ∈ r → x ≠ a := by
      intro x hx he
      subst he
      have : r.any (fun y => match y with | some y => Nat.beq x y | none => false) = true := List.any_eq_true.2 ⟨some x, hx, by simp⟩
      rw [h.1] at this
      cases this
    cases i with
    | zero =>
      cases j with
      | zero => rfl
      | succ j =>
        simp at h1 h2
        subst h1
        exact absurd rfl (hno _ (List.mem_of_getElem? h2))
    | succ i =>
      cases j with
      | zero =>
        simp at h1 h2
        subst h2
        exact absurd rfl (hno _ (List.mem_of_getElem? h1))
      | succ j =>
        simp at h1 h2
        rw [ownB_spec r h.2 i j d h1 h2]
theorem beqf {t d : Nat} (h : t ≠ d) : Nat.beq t d = false := by
  cases hb : Nat.beq t d with
  | true => exact absurd (Nat.eq_of_beq_eq_true hb) h
  | false => rfl

theorem ow_frame {l0 : List Oper} {K : Env → World → Prop} {o : Oper} (h : ow P n l0 K [o] e w) : ow P n l0 (fun e' w' => K e' w' ∧ ∃ v, e' = updo e o.dst v) [o] e w := by
  unfold ow at h ⊢
  split
  · rename_i hw
    rw [if_pos hw] at h
    unfold opW at h ⊢
    generalize (execOp (ev n e) o).run P w = r at h ⊢
    cases r with
    | halt x w' => exact h.elim
    | ok nx w' =>
      cases nx with
      | value v => exact ⟨h, v, rfl⟩
      | skip => exact ⟨h, _, rfl⟩
      | enter f args =>
        refine Calls.mono h fun x w'' hx => ?_
        cases x with
        | returned v => exact ⟨hx, v, rfl⟩
        | _ => exact hx
      | _ => exact h.elim
  · rename_i hw
    rw [if_neg hw] at h
    exact ⟨h, _, rfl⟩

theorem ow_mono {l0 : List Oper} {K K' : Env → World → Prop} (hK : ∀ e w, K e w → K' e w) : ∀ {l : List Oper} {e : Env} {w : World}, ow P n l0 K l e w → ow P n l0 K' l e w
  | [], _, _, h => hK _ _ h
  | o :: l, e, w, h => by
    unfold ow at h ⊢
    split
    · rename_i hw
      rw [if_pos hw] at h
      unfold opW at h ⊢
      generalize (execOp (ev n e) o).run P w = r at h ⊢
      cases r with
      | halt x w' => exact h.elim
      | ok nx w' =>
        cases nx with
        | value v => exact ow_mono hK h
        | skip => exact ow_mono hK h
        | enter f args =>
          refine Calls.mono h fun x w'' hx => ?_
          cases x with
          | returned v => exact ow_mono hK hx
          | _ => exact hx
        | _ => exact h.elim
    · rename_i hw
      rw [if_neg hw] at h
      exact ow_mono hK h

/-- one, then the rest -/
theorem ow_cons {l0 : List Oper} {K : Env → World → Prop} {o : Oper} {l : List Oper} (h : ow P n l0 K (o :: l) e w) : ow P n l0 (fun e' w' => ow P n l0 K l e' w') [o] e w := by
  unfold ow at h ⊢
  exact h

def rdo (e : Env) : Option Nat → Value
  | some t => e t
  | none => undef

theorem slotOf_dst {l : List Oper} {i : Nat} {o : Oper} (h : l[i]? = some o) : slotOf l i = o.dst := by rw [← slotOf_eq, h]; rfl

/-- whoever reads what another one of the first m writes waits for it -/
def readB (l : List Oper) (m : Nat) (i : Nat) : List Oper → Bool
  | [] => true
  | o :: r => (List.range m).all (fun j => Nat.beq j i || match slotOf l j with
      | some d => !((o.looksAt l.toArray).any (fun x => Nat.beq d x)) || (deps o).any (fun x => Nat.beq x j)
      | none => true) && (match o.op with | .select _ _ => false | _ => true) && !(match o.dst with | some d => (o.looksAt l.toArray).any (fun x => Nat.beq d x) | none => false) && readB l m (i + 1) r

theorem readB_spec (l : List Oper) (m : Nat) : ∀ (r : List Oper) (i0 : Nat), readB l m i0 r = true → ∀ i o, r[i]? = some o →
    (∀ j d, j < m → j ≠ i0 + i → slotOf l j = some d → d ∈ o.looksAt l.toArray → j ∈ deps o) ∧ (∀ cs b, o.op ≠ .select cs b) ∧ (∀ d, o.dst = some d → d ∉ o.looksAt l.toArray)
  | [], _, _, i, o, h => by simp at h
  | o' :: r, i0, hb, i, o, h => by
    simp only [readB, Bool.and_eq_true] at hb
    cases i with
    | zero =>
      simp at h
      subst h
      refine ⟨fun j d hj hne hs hd => ?_, fun cs b hsel => ?_, fun d hdst hd => ?_⟩
      · have := List.all_eq_true.1 hb.1.1.1 j (List.mem_range.2 hj)
        rw [hs] at this
        rw [Bool.or_eq_true] at this
        rcases this with h1 | h1
        · exact absurd (Nat.eq_of_beq_eq_true h1) hne
        · simp only [Bool.or_eq_true, Bool.not_eq_true'] at h1
          rcases h1 with h2 | h2
          · have : (o'.looksAt l.toArray).any (fun x => Nat.beq d x) = true := List.any_eq_true.2 ⟨d, hd, by simp⟩
            rw [h2] at this
            cases this
          · obtain ⟨x, hx, he⟩ := List.any_eq_true.1 h2
            rw [Nat.eq_of_beq_eq_true he] at hx
            exact hx
      · have := hb.1.1.2
        rw [hsel] at this
        cases this
      · have := hb.1.2
        rw [hdst] at this
        simp only [Bool.not_eq_true'] at this
        have h2 : (o'.looksAt l.toArray).any (fun x => Nat.beq d x) = true := List.any_eq_true.2 ⟨d, hd, by simp⟩
        rw [this] at h2
        cases h2
    | succ i =>
      simp at h
      have := readB_spec l m r (i0 + 1) hb.2 i o h
      rw [show i0 + 1 + i = i0 + (i + 1) by omega] at this
      exact this

/-- a move's value is what it moves -/
theorem ow_move {l0 : List Oper} {K : Env → World → Prop} {o : Oper} {x : Operand} (hg : o.guard = none) (hx : mv o.op = some x) (h : ow P n l0 K [o] e w) : ow P n l0 (fun e' w' => K e' w' ∧ e' = updo e o.dst (ev n e x)) [o] e w := by
  obtain ⟨d, op, T, pos, af, g⟩ := o
  simp only at hg hx
  subst hg
  unfold ow at h ⊢
  rw [if_pos (by simp [Region.wanted])] at h ⊢
  have hr : (execOp (ev n e) ⟨d, op, T, pos, af, none⟩).run P w = .ok (.value (ev n e x)) w := by
    cases op <;> simp [mv] at hx <;> subst hx <;> simp [execOp]
  unfold opW at h ⊢
  rw [hr] at h ⊢
  exact ⟨h, rfl⟩

/-- the block that a value leads to -/
def vb : Value → Nat
  | .slice (some p) _ _ => p.block
  | .pointer (some p) => p.block
  | .map (some r) => r
  | _ => 0

/-- EVERY OPERATION OF THE FIRST m BY A LASTING FACT V OF ITS VALUE; those of F make new blocks, no two of them one -/
theorem k_anyG {id : Nat} {l : List Oper} (m : Nat) (Le : World → World → Prop) (V : Nat → Value → World → Prop) (F : List Nat) (G : (Nat → Bool) → World → Prop) (hm : P.follows .mixedOrders = true) (hb : backB 0 l = true) (ht : tailB m 0 l = true) (ho : ownB (dsts (l.take m)) = true) (hr : readB l m 0 (l.take m) = true)
    (hrefl : ∀ w, Le w w) (htrans : ∀ a b c, Le a b → Le b c → Le a c) (hst : ∀ i v w w', V i v w → Le w w' → V i v w') (hF : ∀ i, i ∈ F → ∀ v w, V i v w → vb v < w.heap.size) (hG : G (fun _ => false) w.drew)
    (hop : ∀ i o, i < m → l[i]? = some o → ∀ D e' w', D i = false → (∀ j ∈ deps o, D j = true) → Shut l D → G D w' → Le w.drew w' → (∀ t, (∀ j, j < m → slotOf l j ≠ some t) → e' t = e t) → (∀ j ∈ deps o, ∀ t, slotOf l j = some t → V j (e' t) w') →
      ow P n l (fun e2 w2 => Le w' w2 ∧ V i (rdo e2 o.dst) w2 ∧ (i ∈ F → w'.heap.size ≤ vb (rdo e2 o.dst)) ∧ G (fun x => if x = i then true else D x) w2) [o] e' w')
    (hend : ∀ D e' w', (∀ i, i < m → i < l.length → D i = true) → G D w' → Le w.drew w' → (∀ t, (∀ j, j < m → slotOf l j ≠ some t) → e' t = e t) → (∀ j, j < m → ∀ t, slotOf l j = some t → V j (e' t) w') → (∀ i j, i ∈ F → j ∈ F → i < m → j < m → i ≠ j → ∀ t u, slotOf l i = some t → slotOf l j = some u → vb (e' t) ≠ vb (e' u)) → (∀ i o x s, i < m → l[i]? = some o → o.guard = none → mv o.op = some x → slotOf l i = some s → e' s = ev n e' x) → ow P n l (kw P n R k) (l.drop m) e' w') :
    kw P n R (.code (.region id l.toArray true) :: k) e w := by
  have hown : ∀ i j d, i < m → j < m → slotOf l i = some d → slotOf l j = some d → i = j := by
    intro i j d hi hj h1 h2
    have conv : ∀ i, i < m → slotOf l i = some d → (dsts (l.take m))[i]? = some (some d) := by
      intro i hi h1
      rw [← slotOf_eq] at h1
      cases hl : l[i]? with
      | none => rw [hl] at h1; simp at h1
      | some o => rw [hl] at h1; simp at h1; simp [dsts, List.getElem?_take, hi, hl, h1]
    exact ownB_spec _ ho i j d (conv i hi h1) (conv j hj h2)
  refine k_core2 hm hb (fun D e' w' =>
    ((Le w.drew w' ∧ G D w') ∧ (∀ t, (∀ j, j < m → D j = true → slotOf l j ≠ some t) → e' t = e t) ∧ (∀ j, j < m → D j = true → ∀ t, slotOf l j = some t → V j (e' t) w') ∧ (∀ q, m ≤ q → D q = false) ∧ (∀ i j, i ∈ F → j ∈ F → i < m → j < m → i ≠ j → D i = true → D j = true → ∀ t u, slotOf l i = some t → slotOf l j = some u → vb (e' t) ≠ vb (e' u)) ∧
      (∀ i o, i < m → D i = true → l[i]? = some o → ∀ j ∈ deps o, D j = true) ∧ (∀ i o x s, i < m → D i = true → l[i]? = some o → o.guard = none → mv o.op = some x → slotOf l i = some s → e' s = ev n e' x)) ∨
    (∃ q, m < q ∧ (∀ i, i < q → D i = true) ∧ (∀ i, q ≤ i → D i = false) ∧ ow P n l (kw P n R k) (l.drop q) e' w')) ?_ ?_ ?_ (fun hK => ow_mono hK)
  · exact .inl ⟨⟨hrefl _, hG⟩, fun t _ => rfl, fun j _ h => by simp at h, fun _ _ => rfl, fun i j _ _ _ _ _ h => by simp at h, fun i o _ h => by simp at h, fun i o x s _ h => by simp at h⟩
  · intro D e' w' i o hl hD hdep hShut hI
    by_cases him : i < m
    · rcases hI with ⟨⟨hL, hGD⟩, hA, hV, hq, hN, hDn, hMv⟩ | ⟨q, hq, hall, _, _⟩
      · have hA' : ∀ t, (∀ j, j < m → slotOf l j ≠ some t) → e' t = e t := fun t h => hA t (fun j hj _ => h j hj)
        have hd : ∀ j ∈ deps o, ∀ t, slotOf l j = some t → V j (e' t) w' := by
          intro j hj t hs
          have := backB_spec l 0 hb i o hl j hj
          exact hV j (by omega) (hdep j hj) t hs
        have hrun0 : ow P n l (fun e2 w2 => (Le w' w2 ∧ V i (rdo e2 o.dst) w2 ∧ (i ∈ F → w'.heap.size ≤ vb (rdo e2 o.dst)) ∧ G (fun x => if x = i then true else D x) w2) ∧ (∀ x, o.guard = none → mv o.op = some x → e2 = updo e' o.dst (ev n e' x))) [o] e' w' := by
          by_cases hx : ∃ x, o.guard = none ∧ mv o.op = some x
          · obtain ⟨x, hg, hx⟩ := hx
            refine ow_mono ?_ (ow_move hg hx (hop i o him hl D e' w' hD hdep hShut hGD hL hA' hd))
            rintro e2 w2 ⟨h1, h2⟩
            exact ⟨h1, fun y _ hy => by rw [hx] at hy; rw [← Option.some.inj hy]; exact h2⟩
          · exact ow_mono (fun e2 w2 h1 => ⟨h1, fun y hg hy => absurd ⟨y, hg, hy⟩ hx⟩) (hop i o him hl D e' w' hD hdep hShut hGD hL hA' hd)
        refine ow_mono ?_ (ow_frame hrun0)
        rintro e2 w2 ⟨⟨⟨hL2, hV2, hNew, hG2⟩, hmv⟩, v, rfl⟩
        have hdc : o.dst = none ∨ ∃ d, o.dst = some d := by cases o.dst <;> simp
        rcases hdc with hdst | ⟨d, hdst⟩
        · have hup : updo e' o.dst v = e' := by rw [hdst]; rfl
          rw [hup]
          have hsi : slotOf l i = none := by rw [slotOf_dst hl, hdst]
          have hni : ∀ j t, slotOf l j = some t → j ≠ i := fun j t hs hji => by rw [hji, hsi] at hs; cases hs
          refine .inl ⟨⟨htrans _ _ _ hL hL2, hG2⟩, ?_, ?_, ?_, ?_, ?_, ?_⟩
          · intro t h
            exact hA t (fun j hj hDj => h j hj (by by_cases hji : j = i <;> simp [hji, hDj]))
          · intro j hj hDj t hs
            exact hst _ _ _ _ (hV j hj (by simpa [hni j t hs] using hDj) t hs) hL2
          · intro q hqm
            have : q ≠ i := by omega
            simp [this, hq q hqm]
          · intro a b ha hb ham hbm hab hDa hDb ta tb hsa hsb
            exact hN a b ha hb ham hbm hab (by simpa [hni a ta hsa] using hDa) (by simpa [hni b tb hsb] using hDb) ta tb hsa hsb
          · intro a oa ham hDa hla j hj
            by_cases hji : j = i
            · simp [hji]
            · by_cases hai : a = i
              · subst hai
                rw [hl] at hla
                obtain rfl := Option.some.inj hla
                simp [hji, hdep j hj]
              · simp [hji, hDn a oa ham (by simpa [hai] using hDa) hla j hj]
          · intro a oa x sa ham hDa hla hga hxa hsa
            exact hMv a oa x sa ham (by simpa [hni a sa hsa] using hDa) hla hga hxa hsa
        have hsi : slotOf l i = some d := by rw [slotOf_dst hl, hdst]
        refine .inl ⟨⟨htrans _ _ _ hL hL2, hG2⟩, ?_, ?_, ?_, ?_, ?_, ?_⟩
        · intro t h
          have hne : t ≠ d := fun h' => h i him (by simp) (by rw [hsi, h'])
          rw [hdst]
          show upd e' d v t = e t
          unfold upd
          rw [beqf hne]
          exact hA t (fun j hj hDj => h j hj (by by_cases hji : j = i <;> simp [hji, hDj]))
        · intro j hj hDj t hs
          by_cases hji : j = i
          · subst hji
            have htd : t = d := by rw [hsi] at hs; exact (Option.some.inj hs).symm
            subst htd
            rw [hdst] at hV2 ⊢
            exact hV2
          · have hne : t ≠ d := fun h' => hji (hown j i d hj him (by rw [hs, h']) hsi)
            rw [hdst]
            show V j (upd e' d v t) w2
            unfold upd
            rw [beqf hne]
            exact hst _ _ _ _ (hV j hj (by simpa [hji] using hDj) t hs) hL2
        · intro q hqm
          have : q ≠ i := by omega
          simp [this, hq q hqm]
        · intro a b ha hb ham hbm hab hDa hDb ta tb hsa hsb
          have hfix : ∀ j t, j < m → j ≠ i → slotOf l j = some t → updo e' o.dst v t = e' t := by
            intro j t hj hji hs
            have hne : t ≠ d := fun h' => hji (hown j i d hj him (by rw [hs, h']) hsi)
            rw [hdst]
            show upd e' d v t = e' t
            unfold upd
            rw [beqf hne]
            rfl
          have hown2 : ∀ t, slotOf l i = some t → updo e' o.dst v t = rdo (updo e' o.dst v) o.dst := by
            intro t ht
            rw [hsi] at ht
            obtain rfl := Option.some.inj ht
            rw [hdst]
            rfl
          by_cases hai : a = i
          · subst hai
            have hbi : b ≠ a := fun h => hab h.symm
            rw [hown2 ta hsa, hfix b tb hbm hbi hsb]
            have h1 := hNew ha
            have h2 := hF b hb _ _ (hV b hbm (by simpa [hbi] using hDb) tb hsb)
            omega
          · by_cases hbi : b = i
            · subst hbi
              rw [hown2 tb hsb, hfix a ta ham hai hsa]
              have h1 := hNew hb
              have h2 := hF a ha _ _ (hV a ham (by simpa [hai] using hDa) ta hsa)
              omega
            · rw [hfix a ta ham hai hsa, hfix b tb hbm hbi hsb]
              exact hN a b ha hb ham hbm hab (by simpa [hai] using hDa) (by simpa [hbi] using hDb) ta tb hsa hsb
        · intro a oa ham hDa hla j hj
          by_cases hji : j = i
          · simp [hji]
          · by_cases hai : a = i
            · subst hai
              rw [hl] at hla
              obtain rfl := Option.some.inj hla
              simp [hji, hdep j hj]
            · simp [hji, hDn a oa ham (by simpa [hai] using hDa) hla j hj]
        · intro a oa x sa ham hDa hla hga hxa hsa
          have hlam : (l.take m)[a]? = some oa := by rw [List.getElem?_take, if_pos ham]; exact hla
          obtain ⟨r1, r2, r3⟩ := readB_spec l m _ 0 hr a oa hlam
          rw [Nat.zero_add] at r1
          have hlook : ∀ t, x = .tmp t → t ∈ oa.looksAt l.toArray := by
            rintro t rfl
            refine List.mem_append_left _ (List.mem_filterMap.2 ⟨.tmp t, ?_, rfl⟩)
            cases hop' : oa.op <;> rw [hop'] at hxa <;> simp [mv] at hxa <;> simp [Op.operands, hxa]
          have hsame : ev n (updo e' o.dst v) x = ev n e' x := by
            cases x with
            | tmp t =>
              have htl := hlook t rfl
              have hne : t ≠ d := by
                rintro rfl
                by_cases hai : a = i
                · subst hai
                  rw [hl] at hla
                  obtain rfl := Option.some.inj hla
                  exact r3 t hdst htl
                · have h1 := r1 i t him (fun h => hai h.symm) hsi htl
                  have h2 := hDn a oa ham (by simpa [hai] using hDa) hla i h1
                  rw [hD] at h2
                  cases h2
              simp only [ev]
              rw [hdst]
              show (bif Nat.blt t n then upd e' d v t else undef) = _
              unfold upd
              rw [beqf hne]
              rfl
            | _ => rfl
          rw [hsame]
          by_cases hai : a = i
          · subst hai
            rw [hl] at hla
            obtain rfl := Option.some.inj hla
            have h1 := congrFun (hmv x hga hxa) d
            rw [hdst] at h1
            rw [hsi] at hsa
            obtain rfl := Option.some.inj hsa
            rw [hdst]
            simpa [updo, upd] using h1
          · have hne : sa ≠ d := fun h' => hai (hown a i d ham him (by rw [hsa, h']) hsi)
            have h0 : updo e' o.dst v sa = e' sa := by
              rw [hdst]
              show upd e' d v sa = e' sa
              unfold upd
              rw [beqf hne]
              rfl
            rw [h0]
            exact hMv a oa x sa ham (by simpa [hai] using hDa) hla hga hxa hsa
      · have := hall i (by omega)
        rw [hD] at this
        cases this
    · have hdall : ∀ j, j < i → D j = true := tailB_spec m l ht i o hl (by omega) D hShut hdep
      have hdrop : l.drop i = o :: l.drop (i + 1) := by
        have hlt := (List.getElem?_eq_some_iff.1 hl).1
        rw [List.drop_eq_getElem_cons hlt, (List.getElem?_eq_some_iff.1 hl).2]
      have fin : (∀ j, i < j → D j = false) → ow P n l (kw P n R k) (l.drop i) e' w' → ow P n l (fun e2 w2 => ∃ q, m < q ∧ (∀ x, x < q → (if x = i then true else D x) = true) ∧ (∀ x, q ≤ x → (if x = i then true else D x) = false) ∧ ow P n l (kw P n R k) (l.drop q) e2 w2) [o] e' w' := by
        intro hlater hrun
        rw [hdrop] at hrun
        refine ow_mono ?_ (ow_cons hrun)
        intro e2 w2 h2
        refine ⟨i + 1, by omega, fun x hx => ?_, fun x hx => ?_, h2⟩
        · by_cases hxi : x = i
          · simp [hxi]
          · simp [hxi, hdall x (by omega)]
        · have : x ≠ i := by omega
          simp [this, hlater x (by omega)]
      rcases hI with ⟨⟨hL, hGD⟩, hA, hV, hq, hN, hDn, hMv⟩ | ⟨q, hq, hall, hnone, hrun⟩
      · have him' : i = m := by
          by_cases h : i = m
          · exact h
          · have h1 := hdall m (by omega)
            rw [hq m (Nat.le_refl _)] at h1
            cases h1
        subst him'
        exact ow_mono (fun _ _ h => .inr h) (fin (fun j hj => hq j (by omega)) (hend D e' w' (fun j hj _ => hdall j hj) hGD hL (fun t h => hA t (fun j hj _ => h j hj)) (fun j hj t hs => hV j hj (hdall j hj) t hs) (fun a b ha hb ham hbm hab => hN a b ha hb ham hbm hab (hdall a ham) (hdall b hbm)) (fun a oa x s ham => hMv a oa x s ham (hdall a ham))))
      · have hqi : q = i := by
          by_cases h1 : i < q
          · have := hall i h1; rw [hD] at this; cases this
          · by_cases h2 : q < i
            · have := hdall q h2; rw [hnone q (Nat.le_refl _)] at this; cases this
            · omega
        subst hqi
        exact ow_mono (fun _ _ h => .inr h) (fin (fun j hj => hnone j (by omega)) hrun)
  · intro D e' w' hall hI
    rcases hI with ⟨⟨hL, hGD⟩, hA, hV, hq, hN, hDn, hMv⟩ | ⟨q, hq, hall', hnone, hrun⟩
    · have hlen : l.length ≤ m := by
        by_cases h : l.length ≤ m
        · exact h
        · have := hall m (by omega); rw [hq m (Nat.le_refl _)] at this; cases this
      have hin : ∀ j t, slotOf l j = some t → j < l.length := by
        intro j t hs
        rw [← slotOf_eq] at hs
        cases hl : l[j]? with
        | none => rw [hl] at hs; simp at hs
        | some o => exact (List.getElem?_eq_some_iff.1 hl).1
      have := hend D e' w' (fun j _ hj => hall j hj) hGD hL (fun t h => hA t (fun j hj _ => h j hj)) (fun j hj t hs => hV j hj (hall j (hin j t hs)) t hs)
        (fun a b ha hb ham hbm hab t u hst' hsu => hN a b ha hb ham hbm hab (hall a (hin a t hst')) (hall b (hin b u hsu)) t u hst' hsu)
        (fun a oa x s ham hla => hMv a oa x s ham (hall a ((List.getElem?_eq_some_iff.1 hla).1)) hla)
      rw [List.drop_eq_nil_of_le hlen] at this
      exact this
    · have hlen : l.length ≤ q := by
        by_cases h : l.length ≤ q
        · exact h
        · have := hall q (by omega); rw [hnone q (Nat.le_refl _)] at this; cases this
      rw [List.drop_eq_nil_of_le hlen] at hrun
      exact hrun

theorem k_anyF {id : Nat} {l : List Oper} (m : Nat) (Le : World → World → Prop) (V : Nat → Value → World → Prop) (F : List Nat) (hm : P.follows .mixedOrders = true) (hb : backB 0 l = true) (ht : tailB m 0 l = true) (ho : ownB (dsts (l.take m)) = true) (hr : readB l m 0 (l.take m) = true)
    (hrefl : ∀ w, Le w w) (htrans : ∀ a b c, Le a b → Le b c → Le a c) (hst : ∀ i v w w', V i v w → Le w w' → V i v w') (hF : ∀ i, i ∈ F → ∀ v w, V i v w → vb v < w.heap.size)
    (hop : ∀ i o, i < m → l[i]? = some o → ∀ e' w', Le w.drew w' → (∀ t, (∀ j, j < m → slotOf l j ≠ some t) → e' t = e t) → (∀ j ∈ deps o, ∀ t, slotOf l j = some t → V j (e' t) w') →
      ow P n l (fun e2 w2 => Le w' w2 ∧ V i (rdo e2 o.dst) w2 ∧ (i ∈ F → w'.heap.size ≤ vb (rdo e2 o.dst))) [o] e' w')
    (hend : ∀ e' w', Le w.drew w' → (∀ t, (∀ j, j < m → slotOf l j ≠ some t) → e' t = e t) → (∀ j, j < m → ∀ t, slotOf l j = some t → V j (e' t) w') → (∀ i j, i ∈ F → j ∈ F → i < m → j < m → i ≠ j → ∀ t u, slotOf l i = some t → slotOf l j = some u → vb (e' t) ≠ vb (e' u)) → (∀ i o x s, i < m → l[i]? = some o → o.guard = none → mv o.op = some x → slotOf l i = some s → e' s = ev n e' x) → ow P n l (kw P n R k) (l.drop m) e' w') :
    kw P n R (.code (.region id l.toArray true) :: k) e w :=
  k_anyG m Le V F (fun _ _ => True) hm hb ht ho hr hrefl htrans hst hF trivial
    (fun i o hi hl D e' w' _ _ _ _ h1 h2 h3 => ow_mono (fun _ _ h => ⟨h.1, h.2.1, h.2.2, trivial⟩) (hop i o hi hl e' w' h1 h2 h3))
    (fun D e' w' _ _ h1 h2 h3 h4 h5 => hend e' w' h1 h2 h3 h4 h5)

/-- EVERY OPERATION OF THE FIRST m BY A LASTING FACT V OF ITS VALUE -/
theorem k_any {id : Nat} {l : List Oper} (m : Nat) (Le : World → World → Prop) (V : Nat → Value → World → Prop) (hm : P.follows .mixedOrders = true) (hb : backB 0 l = true) (ht : tailB m 0 l = true) (ho : ownB (dsts (l.take m)) = true) (hr : readB l m 0 (l.take m) = true)
    (hrefl : ∀ w, Le w w) (htrans : ∀ a b c, Le a b → Le b c → Le a c) (hst : ∀ i v w w', V i v w → Le w w' → V i v w')
    (hop : ∀ i o, i < m → l[i]? = some o → ∀ e' w', Le w.drew w' → (∀ t, (∀ j, j < m → slotOf l j ≠ some t) → e' t = e t) → (∀ j ∈ deps o, ∀ t, slotOf l j = some t → V j (e' t) w') →
      ow P n l (fun e2 w2 => Le w' w2 ∧ V i (rdo e2 o.dst) w2) [o] e' w')
    (hend : ∀ e' w', Le w.drew w' → (∀ t, (∀ j, j < m → slotOf l j ≠ some t) → e' t = e t) → (∀ j, j < m → ∀ t, slotOf l j = some t → V j (e' t) w') → ow P n l (kw P n R k) (l.drop m) e' w') :
    kw P n R (.code (.region id l.toArray true) :: k) e w :=
  k_anyF m Le V [] hm hb ht ho hr hrefl htrans hst (fun _ h => by simp at h) (fun i o hi hl e' w' h1 h2 h3 => ow_mono (fun _ _ h => ⟨h.1, h.2, fun h => by simp at h⟩) (hop i o hi hl e' w' h1 h2 h3)) (fun e' w' h1 h2 h3 _ _ => hend e' w' h1 h2 h3)

/-! ### every operation quiet in a class of worlds: one walk in the order of the text -/
def qw (P : Program) (n : Nat) (l0 : List Oper) (C : World → Prop) (K : Env → Prop) : List Oper → Env → Prop
  | [], e => K e
  | o :: l, e => ∃ v, (∀ w, C w → ow P n l0 (fun e' w' => e' = updo e o.dst v ∧ C w') [o] e w) ∧ qw P n l0 C K l (updo e o.dst v)

theorem q_step {l0 l : List Oper} {C : World → Prop} {K : Env → Prop} {o : Oper} {v : Value} (h1 : ∀ w, C w → ow P n l0 (fun e' w' => e' = updo e o.dst v ∧ C w') [o] e w) (h2 : qw P n l0 C K l (updo e o.dst v)) : qw P n l0 C K (o :: l) e := ⟨v, h1, h2⟩
theorem q_nil {l0 : List Oper} {C : World → Prop} {K : Env → Prop} (h : K e) : qw P n l0 C K [] e := h
theorem q_split {l0 l : List Oper} {C : World → Prop} {K : Env → Prop} {t : Nat} {p : Prop} [Decidable p] (h : e t = .bool (decide p)) (ht : p → qw P n l0 C K l (upd e t (.bool true))) (hf : ¬ p → qw P n l0 C K l (upd e t (.bool false))) : qw P n l0 C K l e := by
  by_cases hp : p
  · have := ht hp
    rwa [upd_self (by rw [h]; simp [hp])] at this
  · have := hf hp
    rwa [upd_self (by rw [h]; simp [hp])] at this
theorem q_true {l0 l : List Oper} {C : World → Prop} {K : Env → Prop} {t : Nat} {p : Prop} [Decidable p] (h : e t = .bool (decide p)) (hp : p) (ht : qw P n l0 C K l (upd e t (.bool true))) : qw P n l0 C K l e := q_split h (fun _ => ht) (fun hn => absurd hp hn)
theorem q_false {l0 l : List Oper} {C : World → Prop} {K : Env → Prop} {t : Nat} {p : Prop} [Decidable p] (h : e t = .bool (decide p)) (hp : ¬ p) (ht : qw P n l0 C K l (upd e t (.bool false))) : qw P n l0 C K l e := q_split h (fun hh => absurd hh hp) (fun _ => ht)

/-- the environment behind the first i operations -/
def envAt (l : List Oper) (v : Nat → Value) (e : Env) : Nat → Env
  | 0 => e
  | i + 1 => updo (envAt l v e i) (slotOf l i) (v i)

theorem qw_vals {l0 : List Oper} {C : World → Prop} {K : Env → Prop} : ∀ (l : List Oper) (e : Env), qw P n l0 C K l e →
    ∃ v : Nat → Value, (∀ i o, l[i]? = some o → ∀ w, C w → ow P n l0 (fun e' w' => e' = updo (envAt l v e i) o.dst (v i) ∧ C w') [o] (envAt l v e i) w) ∧ K (envAt l v e l.length)
  | [], e, h => ⟨fun _ => undef, fun i o h => by simp at h, h⟩
  | o :: l, e, ⟨v0, h1, h2⟩ => by
    obtain ⟨v, hv, hK⟩ := qw_vals l _ h2
    have henv : ∀ i, envAt (o :: l) (fun i => match i with | 0 => v0 | i + 1 => v i) e (i + 1) = envAt l v (updo e o.dst v0) i := by
      intro i
      induction i with
      | zero => rfl
      | succ i ih =>
        show updo (envAt (o :: l) _ e (i + 1)) (slotOf (o :: l) (i + 1)) (v i) = updo (envAt l v (updo e o.dst v0) i) (slotOf l i) (v i)
        rw [ih]
        rfl
    refine ⟨fun i => match i with | 0 => v0 | i + 1 => v i, ?_, ?_⟩
    · intro i o' hi w hC
      cases i with
      | zero =>
        simp at hi
        subst hi
        exact h1 w hC
      | succ i =>
        simp at hi
        rw [henv]
        exact hv i o' hi w hC
    · rw [List.length_cons, henv]
      exact hK

theorem ow_congr {l0 : List Oper} {o : Oper} {e1 e2 : Env} {C : World → Prop} {v : Value} (hsel : ∀ cs b, o.op ≠ .select cs b) (h : ∀ t, t ∈ o.looksAt l0.toArray → e1 t = e2 t) (h1 : ow P n l0 (fun e' w' => e' = updo e1 o.dst v ∧ C w') [o] e1 w) :
    ow P n l0 (fun e' w' => e' = updo e2 o.dst v ∧ C w') [o] e2 w := by
  have hev : ∀ t, t ∈ o.looksAt l0.toArray → ev n e1 (.tmp t) = ev n e2 (.tmp t) := fun t ht => by simp only [ev, h t ht]
  have hop : execOp (ev n e1) o = execOp (ev n e2) o := by
    refine execOp_congr o hsel fun x hx => ?_
    cases x with
    | tmp t => exact hev t (List.mem_append_left _ (List.mem_filterMap.2 ⟨.tmp t, by simpa using hx, rfl⟩))
    | _ => rfl
  have hwant : Region.wanted o (yielded l0.toArray (act n e1).tmps) = Region.wanted o (yielded l0.toArray (act n e2).tmps) := by
    unfold Region.wanted
    cases hg : o.guard with
    | none => rfl
    | some g =>
      obtain ⟨j, b⟩ := g
      simp only []
      have hy : yielded l0.toArray (act n e1).tmps j = yielded l0.toArray (act n e2).tmps j := by
        unfold yielded
        cases hs : (l0.toArray[j]?).bind (·.dst) with
        | none => rfl
        | some t =>
          have ht : t ∈ o.looksAt l0.toArray := by
            unfold Oper.looksAt
            rw [hg]
            refine List.mem_append_right _ ?_
            simp only [hs]
            simp
          simp only [Option.bind_some, act, Array.getElem?_ofFn, h t ht]
      rw [hy]
  have key : ∀ (u : Value), updo e1 o.dst u = updo e1 o.dst v → updo e2 o.dst u = updo e2 o.dst v := by
    intro u hu
    have hdc : o.dst = none ∨ ∃ d, o.dst = some d := by cases o.dst <;> simp
    rcases hdc with hd | ⟨d, hd⟩
    · rw [hd]; rfl
    · rw [hd] at hu ⊢
      have := congrFun hu d
      have : u = v := by simpa [updo, upd] using this
      rw [this]
  unfold ow at h1 ⊢
  rw [← hwant]
  split
  · rename_i hw
    rw [if_pos hw] at h1
    unfold opW at h1 ⊢
    rw [← hop]
    generalize (execOp (ev n e1) o).run P w = r at h1 ⊢
    cases r with
    | halt x w' => exact h1.elim
    | ok nx w' =>
      cases nx with
      | value u => exact ⟨key u h1.1, h1.2⟩
      | skip => exact ⟨key _ h1.1, h1.2⟩
      | enter f args =>
        refine Calls.mono h1 fun x w'' hx => ?_
        cases x with
        | returned u => exact ⟨key u hx.1, hx.2⟩
        | _ => exact hx
      | _ => exact h1.elim
  · rename_i hw
    rw [if_neg hw] at h1
    exact ⟨key _ h1.1, h1.2⟩

/-- THE FIRST m OPERATIONS QUIET IN THE CLASS C, THE REST IN THE ORDER OF THE TEXT -/
theorem k_quiet {id : Nat} {l : List Oper} (m : Nat) (C : World → Prop) (hm : P.follows .mixedOrders = true) (hb : backB 0 l = true) (ht : tailB m 0 l = true) (ho : ownB (dsts (l.take m)) = true) (hr : readB l m 0 (l.take m) = true)
    (hC : C w.drew) (h : qw P n l C (fun e' => ∀ w', C w' → ow P n l (kw P n R k) (l.drop m) e' w') (l.take m) e) :
    kw P n R (.code (.region id l.toArray true) :: k) e w := by
  obtain ⟨v, hv, hK⟩ := qw_vals _ _ h
  have hslot : ∀ i, i < m → slotOf (l.take m) i = slotOf l i := by
    intro i hi
    rw [← slotOf_eq, ← slotOf_eq, List.getElem?_take, if_pos hi]
  have hlen : (l.take m).length ≤ m := by rw [List.length_take]; omega
  have hown : ∀ i j d, i < m → j < m → slotOf l i = some d → slotOf l j = some d → i = j := by
    intro i j d hi hj h1 h2
    have conv : ∀ i, i < m → slotOf l i = some d → (dsts (l.take m))[i]? = some (some d) := by
      intro i hi h1
      rw [← slotOf_eq] at h1
      cases hl : l[i]? with
      | none => rw [hl] at h1; simp at h1
      | some o => rw [hl] at h1; simp at h1; simp [dsts, List.getElem?_take, hi, hl, h1]
    exact ownB_spec _ ho i j d (conv i hi h1) (conv j hj h2)
  -- what the environment in text order holds
  have henv : ∀ i, i ≤ m → ∀ t, (∀ j, j < i → slotOf l j ≠ some t) → envAt (l.take m) v e i t = e t := by
    intro i
    induction i with
    | zero => intro _ t _; rfl
    | succ i ih =>
      intro hi t h
      show updo (envAt (l.take m) v e i) (slotOf (l.take m) i) (v i) t = e t
      rw [hslot i (by omega)]
      cases hs : slotOf l i with
      | none => exact ih (by omega) t (fun j hj => h j (by omega))
      | some d =>
        have hne : t ≠ d := fun hh => h i (by omega) (by rw [hs, hh])
        show upd _ d (v i) t = e t
        unfold upd
        rw [beqf hne]
        exact ih (by omega) t (fun j hj => h j (by omega))
  have hval : ∀ i, i ≤ m → ∀ j, j < i → ∀ t, slotOf l j = some t → envAt (l.take m) v e i t = v j := by
    intro i
    induction i with
    | zero => intro _ j hj; omega
    | succ i ih =>
      intro hi j hj t hs
      show updo (envAt (l.take m) v e i) (slotOf (l.take m) i) (v i) t = v j
      rw [hslot i (by omega)]
      by_cases hji : j = i
      · subst hji
        rw [hs]
        simp [updo, upd]
      · cases hsi : slotOf l i with
        | none => exact ih (by omega) j (by omega) t hs
        | some d =>
          have hne : t ≠ d := fun hh => hji (hown j i d (by omega) (by omega) (by rw [hs, hh]) hsi)
          show upd _ d (v i) t = v j
          unfold upd
          rw [beqf hne]
          exact ih (by omega) j (by omega) t hs
  refine k_any m (fun w w' => C w → C w') (fun i u _ => slotOf l i = none ∨ u = v i) hm hb ht ho hr (fun _ h => h) (fun _ _ _ h1 h2 h => h2 (h1 h)) (fun _ _ _ _ h _ => h) ?_ ?_
  · intro i o him hl e' w' hL hA hD
    have hlm : (l.take m)[i]? = some o := by rw [List.getElem?_take, if_pos him]; exact hl
    obtain ⟨h1, h2, h3⟩ := readB_spec l m _ 0 hr i o hlm
    rw [Nat.zero_add] at h1
    have hcg := ow_congr (e1 := envAt (l.take m) v e i) (e2 := e') h2 (fun t htl => ?_) (hv i o hlm w' (hL hC))
    · refine ow_mono ?_ hcg
      rintro e2 w2 ⟨rfl, hC2⟩
      refine ⟨fun _ => hC2, ?_⟩
      rw [slotOf_dst hl]
      cases o.dst with
      | none => exact .inl rfl
      | some d => right; simp [rdo, updo, upd]
    · by_cases hex : ∃ j, j < m ∧ slotOf l j = some t
      · obtain ⟨j, hjm, hs⟩ := hex
        have hji : j ≠ i := by
          rintro rfl
          rw [slotOf_dst hl] at hs
          exact h3 t hs htl
        have hjd := h1 j t hjm hji hs htl
        have hlt := backB_spec l 0 hb i o hl j hjd
        rw [hval i (by omega) j (by omega) t hs]
        rcases hD j hjd t hs with hn | hn
        · rw [hs] at hn; cases hn
        · exact hn.symm
      · have hno : ∀ j, j < m → slotOf l j ≠ some t := fun j hj hs => hex ⟨j, hj, hs⟩
        rw [henv i (by omega) t (fun j hj => hno j (by omega)), hA t hno]
  · intro e' w' hL hA hV
    have heq : e' = envAt (l.take m) v e (l.take m).length := by
      funext t
      by_cases hex : ∃ j, j < m ∧ slotOf l j = some t
      · obtain ⟨j, hjm, hs⟩ := hex
        have hjl : j < (l.take m).length := by
          rw [List.length_take]
          rw [← slotOf_eq] at hs
          cases hl : l[j]? with
          | none => rw [hl] at hs; simp at hs
          | some o => have := (List.getElem?_eq_some_iff.1 hl).1; omega
        rw [hval _ hlen j hjl t hs]
        rcases hV j hjm t hs with hn | hn
        · rw [hs] at hn; cases hn
        · exact hn
      · have hno : ∀ j, j < m → slotOf l j ≠ some t := fun j hj hs => hex ⟨j, hj, hs⟩
        rw [henv _ hlen t (fun j hj => hno j (by omega)), hA t hno]
    rw [heq]
    exact hK w' (hL hC)

/-- the class: nothing that was there has turned -/
theorem k_qk {id : Nat} {l : List Oper} (m : Nat) (hm : P.follows .mixedOrders = true) (hb : backB 0 l = true) (ht : tailB m 0 l = true) (ho : ownB (dsts (l.take m)) = true) (hr : readB l m 0 (l.take m) = true)
    (h : qw P n l (fun w' => Keep [] w w') (fun e' => ∀ w', Keep [] w w' → ow P n l (kw P n R k) (l.drop m) e' w') (l.take m) e) :
    kw P n R (.code (.region id l.toArray true) :: k) e w := k_quiet m (fun w' => Keep [] w w') hm hb ht ho hr (Keep.refl [] w).drew h

/-- the class: the very world, but for draws -/
theorem k_q1 {id : Nat} {l : List Oper} (m : Nat) (hm : P.follows .mixedOrders = true) (hb : backB 0 l = true) (ht : tailB m 0 l = true) (ho : ownB (dsts (l.take m)) = true) (hr : readB l m 0 (l.take m) = true)
    (h : qw P n l (fun w' => w' = w.drew) (fun e' => ∀ w', w' = w.drew → ow P n l (kw P n R k) (l.drop m) e' w') (l.take m) e) :
    kw P n R (.code (.region id l.toArray true) :: k) e w := k_quiet m (fun w' => w' = w.drew) hm hb ht ho hr rfl h

/-- a slot that none of the first m operations writes -/
def freeB (l : List Oper) (m t : Nat) : Bool := (dsts (l.take m)).all (fun x => match x with | some y => !(Nat.beq t y) | none => true)
theorem free_of {l : List Oper} {m t : Nat} (h : freeB l m t = true) : ∀ j, j < m → slotOf l j ≠ some t := by
  intro j hj hs
  rw [← slotOf_eq] at hs
  cases hl : l[j]? with
  | none => rw [hl] at hs; simp at hs
  | some o =>
    rw [hl] at hs
    simp at hs
    have := List.all_eq_true.1 h (some t) (List.mem_of_getElem? (i := j) (by simp [dsts, List.getElem?_take, hj, hl, hs]))
    simp at this

theorem o_gen {l0 l : List Oper} {K : Env → World → Prop} (L : List (Nat × Value)) (h : Has L e) (H : ∀ e, ow P n l0 K l (ovr L e) w) : ow P n l0 K l e w := by
  have := H e
  rwa [ovr_self h] at this

end E
end Go.Proofs.Ytbfphjhahgpndaa
