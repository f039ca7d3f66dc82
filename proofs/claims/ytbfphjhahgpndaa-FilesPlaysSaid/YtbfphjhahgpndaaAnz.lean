/- Regions that draw their order, some of whose operations turn memory: these stand in one order, and each of the others is quiet at every stage at which it can be met. No condition. -/
import Derived.Test.YtbfphjhahgpndaaAny
namespace Go.Proofs.Ytbfphjhahgpndaa
open Go.RowKit
set_option linter.unusedVariables false
set_option linter.unusedSimpArgs false
namespace E
variable {P : Program} {n : Nat} {R : Exit → Env → World → Prop} {k : List KI} {e : Env} {w : World}

/-- how many of the first of a row are done -/
def stg (D : Nat → Bool) : List Nat → Nat
  | [] => 0
  | q :: Q => bif D q then stg D Q + 1 else 0
theorem stg_mono {D D' : Nat → Bool} : ∀ (Q : List Nat), (∀ q ∈ Q, D q = true → D' q = true) → stg D Q ≤ stg D' Q
  | [], _ => Nat.le_refl _
  | q :: Q, h => by
    unfold stg
    cases hq : D q with
    | false => simp
    | true =>
      rw [h q (by simp) hq]
      simp only [cond_true]
      have := stg_mono Q (fun x hx => h x (by simp [hx]))
      omega
theorem stg_congr {D D' : Nat → Bool} (Q : List Nat) (h : ∀ q ∈ Q, D q = D' q) : stg D Q = stg D' Q :=
  Nat.le_antisymm (stg_mono Q fun q hq hd => by rw [← h q hq]; exact hd) (stg_mono Q fun q hq hd => by rw [h q hq]; exact hd)
theorem stg_split {D : Nat → Bool} : ∀ (A B : List Nat) (q : Nat), (∀ a ∈ A, D a = true) → stg D (A ++ q :: B) = A.length + stg D (q :: B)
  | [], B, q, _ => by simp
  | a :: A, B, q, h => by
    rw [List.cons_append, stg, h a (by simp), stg_split A B q (fun x hx => h x (by simp [hx]))]
    simp
    omega

/-- the bits that an operation's number has -/
def bitM (M : List Nat) (i j : Nat) : Bool := Nat.testBit (M.getD i 0) j
/-- each of the row waits for the one ahead of it -/
def ordM (M : List Nat) : List Nat → Bool
  | a :: b :: Q => bitM M b a && ordM M (b :: Q)
  | _ => true
theorem done_of {l : List Oper} {D : Nat → Bool} (hD : Shut l D) {i j : Nat} {o : Oper} (hl : l[i]? = some o) (hd : ∀ d ∈ deps o, D d = true) (hb : bitM (cloM l []) i j = true) : D j = true :=
  cloM_spec l D hD l [] rfl (fun i o hi => by simp at hi) i o hl hd j hb
theorem done_at {l : List Oper} {D : Nat → Bool} (hD : Shut l D) {i j : Nat} {o : Oper} (hl : l[i]? = some o) (hi : D i = true) (hb : bitM (cloM l []) i j = true) : D j = true :=
  done_of hD hl (hD i o hl hi) hb

def loM (M : List Nat) (Q : List Nat) (i : Nat) : Nat := stg (fun q => bitM M i q) Q
def hiM (M : List Nat) (Q : List Nat) (i : Nat) : Nat := stg (fun q => !(bitM M q i)) Q

/-- the walk in the order of the text; Q: the operations that turn memory; C s: the worlds behind s of them -/
def qg (P : Program) (n : Nat) (l0 : List Oper) (C : Nat → World → Prop) (Q0 : List Nat) (K : Nat → Env → Prop) : List Nat → Nat → Nat → List Oper → Env → Prop
  | Q, s, i, [], e => K s e
  | [], s, i, o :: l, e => ∃ v, (∀ s' w, loM (cloM l0 []) Q0 i ≤ s' → s' ≤ hiM (cloM l0 []) Q0 i → C s' w → ow P n l0 (fun e' w' => e' = updo e o.dst v ∧ C s' w') [o] e w) ∧ qg P n l0 C Q0 K [] s (i + 1) l (updo e o.dst v)
  | q :: Q, s, i, o :: l, e => bif Nat.beq i q then ∃ v, (∀ w, C s w → ow P n l0 (fun e' w' => e' = updo e o.dst v ∧ C (s + 1) w') [o] e w) ∧ qg P n l0 C Q0 K Q (s + 1) (i + 1) l (updo e o.dst v)
      else ∃ v, (∀ s' w, loM (cloM l0 []) Q0 i ≤ s' → s' ≤ hiM (cloM l0 []) Q0 i → C s' w → ow P n l0 (fun e' w' => e' = updo e o.dst v ∧ C s' w') [o] e w) ∧ qg P n l0 C Q0 K (q :: Q) s (i + 1) l (updo e o.dst v)

section steps
variable {l0 l : List Oper} {C : Nat → World → Prop} {Q0 Q : List Nat} {K : Nat → Env → Prop} {s i : Nat} {o : Oper} {v : Value}
theorem s_nil (h : K s e) : qg P n l0 C Q0 K Q s i [] e := by cases Q <;> exact h
theorem s_loud {q : Nat} (hq : Nat.beq i q = true) (h1 : ∀ w, C s w → ow P n l0 (fun e' w' => e' = updo e o.dst v ∧ C (s + 1) w') [o] e w) (h2 : qg P n l0 C Q0 K Q (s + 1) (i + 1) l (updo e o.dst v)) : qg P n l0 C Q0 K (q :: Q) s i (o :: l) e := by
  unfold qg; rw [hq]; exact ⟨v, h1, h2⟩
def notQ (i : Nat) : List Nat → Bool
  | [] => true
  | q :: _ => !(Nat.beq i q)
theorem s_step (lo hi : Nat) (hq : notQ i Q = true) (hlo : loM (cloM l0 []) Q0 i = lo) (hhi : hiM (cloM l0 []) Q0 i = hi) (h1 : ∀ s' w, lo ≤ s' → s' ≤ hi → C s' w → ow P n l0 (fun e' w' => e' = updo e o.dst v ∧ C s' w') [o] e w) (h2 : qg P n l0 C Q0 K Q s (i + 1) l (updo e o.dst v)) : qg P n l0 C Q0 K Q s i (o :: l) e := by
  subst hlo hhi
  cases Q with
  | nil => exact ⟨v, h1, h2⟩
  | cons q Q =>
    unfold qg
    have : Nat.beq i q = false := by simpa [notQ] using hq
    rw [this]
    exact ⟨v, h1, h2⟩
theorem s_split {t : Nat} {p : Prop} [Decidable p] (h : e t = .bool (decide p)) (ht : p → qg P n l0 C Q0 K Q s i l (upd e t (.bool true))) (hf : ¬ p → qg P n l0 C Q0 K Q s i l (upd e t (.bool false))) : qg P n l0 C Q0 K Q s i l e := by
  by_cases hp : p
  · have := ht hp
    rwa [upd_self (by rw [h]; simp [hp])] at this
  · have := hf hp
    rwa [upd_self (by rw [h]; simp [hp])] at this
theorem s_true {t : Nat} {p : Prop} [Decidable p] (h : e t = .bool (decide p)) (hp : p) (ht : qg P n l0 C Q0 K Q s i l (upd e t (.bool true))) : qg P n l0 C Q0 K Q s i l e := s_split h (fun _ => ht) (fun hn => absurd hp hn)
theorem s_false {t : Nat} {p : Prop} [Decidable p] (h : e t = .bool (decide p)) (hp : ¬ p) (ht : qg P n l0 C Q0 K Q s i l (upd e t (.bool false))) : qg P n l0 C Q0 K Q s i l e := s_split h (fun hh => absurd hh hp) (fun _ => ht)
end steps

/-- the values, and what each operation does -/
def QV (P : Program) (n : Nat) (l0 : List Oper) (C : Nat → World → Prop) (Q0 : List Nat) (K : Nat → Env → Prop) (l : List Oper) (Q : List Nat) (s i0 : Nat) (e : Env) : Prop :=
  ∃ v : Nat → Value, (∀ i o, l[i]? = some o → i0 + i ∉ Q → ∀ s' w, loM (cloM l0 []) Q0 (i0 + i) ≤ s' → s' ≤ hiM (cloM l0 []) Q0 (i0 + i) → C s' w → ow P n l0 (fun e' w' => e' = updo (envAt l v e i) o.dst (v i) ∧ C s' w') [o] (envAt l v e i) w) ∧
      (∀ A B q, Q = A ++ q :: B → ∀ i o, l[i]? = some o → q = i0 + i → ∀ w, C (s + A.length) w → ow P n l0 (fun e' w' => e' = updo (envAt l v e i) o.dst (v i) ∧ C (s + A.length + 1) w') [o] (envAt l v e i) w) ∧ K (s + Q.length) (envAt l v e l.length)
theorem qg_vals {l0 : List Oper} {C : Nat → World → Prop} {Q0 : List Nat} {K : Nat → Env → Prop} : ∀ (l : List Oper) (Q : List Nat) (s i0 : Nat) (e : Env), qg P n l0 C Q0 K Q s i0 l e → (∀ q ∈ Q, i0 ≤ q ∧ q < i0 + l.length) → Q.Pairwise (· < ·) →
    QV P n l0 C Q0 K l Q s i0 e
  | [], Q, s, i0, e, h, hQ, _ => by
    have hQ0 : Q = [] := by
      cases Q with
      | nil => rfl
      | cons q Q => have := hQ q (by simp); simp at this; omega
    subst hQ0
    exact ⟨fun _ => undef, fun i o h => by simp at h, fun A B q hA => by simp at hA, h⟩
  | o :: l, Q, s, i0, e, h, hQ, hP => by
    have hcons : ∀ (v0 : Value) (v : Nat → Value) (i : Nat), envAt (o :: l) (fun i => match i with | 0 => v0 | i + 1 => v i) e (i + 1) = envAt l v (updo e o.dst v0) i := by
      intro v0 v i
      induction i with
      | zero => rfl
      | succ i ih =>
        show updo (envAt (o :: l) _ e (i + 1)) (slotOf (o :: l) (i + 1)) (v i) = updo (envAt l v (updo e o.dst v0) i) (slotOf l i) (v i)
        rw [ih]
        rfl
    have quiet : i0 ∉ Q → (∃ v0, (∀ s' w, loM (cloM l0 []) Q0 i0 ≤ s' → s' ≤ hiM (cloM l0 []) Q0 i0 → C s' w → ow P n l0 (fun e' w' => e' = updo e o.dst v0 ∧ C s' w') [o] e w) ∧ qg P n l0 C Q0 K Q s (i0 + 1) l (updo e o.dst v0)) → QV P n l0 C Q0 K (o :: l) Q s i0 e := by
      rintro hni ⟨v0, h1, h2⟩
      have hQ' : ∀ q ∈ Q, i0 + 1 ≤ q ∧ q < i0 + 1 + l.length := fun q hq => by
        have := hQ q hq
        have : q ≠ i0 := fun h => hni (h ▸ hq)
        simp at *
        omega
      obtain ⟨v, hv, hloud, hK⟩ := qg_vals l Q s (i0 + 1) _ h2 hQ' hP
      refine ⟨fun i => match i with | 0 => v0 | i + 1 => v i, ?_, ?_, ?_⟩
      · intro i o' hi hn s' w hlo hhi hC
        cases i with
        | zero => simp at hi; subst hi; exact h1 s' w hlo hhi hC
        | succ i =>
          rw [hcons]
          refine hv i o' (by simpa using hi) (by rwa [Nat.add_assoc, Nat.add_comm 1 i]) s' w ?_ ?_ hC
          · rwa [Nat.add_assoc, Nat.add_comm 1 i]
          · rwa [Nat.add_assoc, Nat.add_comm 1 i]
      · intro A B q hA i o' hi hq w hC
        cases i with
        | zero => exact absurd (by rw [hA]; simp [hq]) hni
        | succ i =>
          rw [hcons]
          exact hloud A B q hA i o' (by simpa using hi) (by omega) w hC
      · rw [List.length_cons, hcons]; exact hK
    cases Q with
    | nil => exact quiet (by simp) h
    | cons q Q =>
      unfold qg at h
      cases hb : Nat.beq i0 q with
      | false =>
        rw [hb] at h
        refine quiet ?_ h
        have hne := Nat.ne_of_beq_eq_false hb
        intro hm
        rcases List.mem_cons.1 hm with h' | h'
        · exact hne h'
        · have := (List.pairwise_cons.1 hP).1 _ h'
          have := (hQ q (by simp)).1
          omega
      | true =>
        rw [hb] at h
        have hiq := Nat.eq_of_beq_eq_true hb
        subst hiq
        obtain ⟨v0, h1, h2⟩ := h
        have hP' := List.pairwise_cons.1 hP
        obtain ⟨v, hv, hloud, hK⟩ := qg_vals l Q (s + 1) (i0 + 1) _ h2 (fun q hq => by
          have := hQ q (by simp [hq])
          have := hP'.1 q hq
          simp at *
          omega) hP'.2
        refine ⟨fun i => match i with | 0 => v0 | i + 1 => v i, ?_, ?_, ?_⟩
        · intro i o' hi hn s' w hlo hhi hC
          cases i with
          | zero => exact absurd (by simp) hn
          | succ i =>
            rw [hcons]
            refine hv i o' (by simpa using hi) (fun hm => hn (by rw [show i0 + (i + 1) = i0 + 1 + i by omega]; simp [hm])) s' w ?_ ?_ hC
            · rwa [Nat.add_assoc, Nat.add_comm 1 i]
            · rwa [Nat.add_assoc, Nat.add_comm 1 i]
        · intro A B q hA i o' hi hq w hC
          cases A with
          | nil =>
            simp at hA
            obtain ⟨rfl, rfl⟩ := hA
            obtain rfl : i = 0 := by omega
            simp at hi
            subst hi
            exact h1 w hC
          | cons a A =>
            simp at hA
            obtain ⟨rfl, rfl⟩ := hA
            cases i with
            | zero => 
              have := hP'.1 q (by simp)
              omega
            | succ i =>
              rw [hcons]
              have e1 : s + (i0 :: A).length = s + 1 + A.length := by simp; omega
              rw [e1] at hC ⊢
              exact hloud A B q rfl i o' (by simpa using hi) (by omega) w hC
        · rw [List.length_cons (a := o), hcons, List.length_cons, show s + (Q.length + 1) = s + 1 + Q.length by omega]
          exact hK

def upM : List Nat → Bool
  | a :: b :: Q => Nat.blt a b && upM (b :: Q)
  | _ => true
theorem upM_spec : ∀ (Q : List Nat), upM Q = true → Q.Pairwise (· < ·)
  | [], _ => List.Pairwise.nil
  | [a], _ => by simp
  | a :: b :: Q, h => by
    simp only [upM, Bool.and_eq_true, Nat.blt_eq] at h
    have ih := upM_spec (b :: Q) h.2
    refine List.pairwise_cons.2 ⟨fun x hx => ?_, ih⟩
    rcases List.mem_cons.1 hx with rfl | hx
    · exact h.1
    · have := (List.pairwise_cons.1 ih).1 x hx
      omega
theorem ordM_spec (M : List Nat) : ∀ (A : List Nat) (a b : Nat) (B : List Nat), ordM M (A ++ a :: b :: B) = true → bitM M b a = true
  | [], a, b, B, h => by simp only [List.nil_append, ordM, Bool.and_eq_true] at h; exact h.1
  | [x], a, b, B, h => by simp only [List.cons_append, List.nil_append, ordM, Bool.and_eq_true] at h; exact h.2.1
  | x :: y :: A, a, b, B, h => by
    simp only [List.cons_append, ordM, Bool.and_eq_true] at h
    exact ordM_spec M (y :: A) a b B h.2
/-- done: so is all ahead of it in the row -/
theorem ahead {l : List Oper} {D : Nat → Bool} (hD : Shut l D) {Q : List Nat} (hQ : ordM (cloM l []) Q = true) (hl : ∀ q ∈ Q, q < l.length) : ∀ (A : List Nat) (q : Nat) (B : List Nat), Q = A ++ q :: B → (D q = true ∨ ∃ o, l[q]? = some o ∧ ∀ d ∈ deps o, D d = true) → ∀ a ∈ A, D a = true := by
  intro A
  induction hn : A.length generalizing A with
  | zero => intro q B _ _ a ha; rw [List.eq_nil_of_length_eq_zero hn] at ha; simp at ha
  | succ m ih =>
    intro q B hQe hq a ha
    obtain ⟨A', x, rfl⟩ : ∃ A' x, A = A' ++ [x] := ⟨A.dropLast, A.getLast (by intro h; rw [h] at hn; simp at hn), (List.dropLast_concat_getLast _).symm⟩
    have hbit : bitM (cloM l []) q x = true := ordM_spec _ A' x q B (by rw [hQe] at hQ; simpa using hQ)
    have hx : D x = true := by
      rcases hq with hq | ⟨o, ho, hd⟩
      · have hlt := hl q (by rw [hQe]; simp)
        exact done_at hD (List.getElem?_eq_getElem hlt) hq hbit
      · exact done_of hD ho hd hbit
    rcases List.mem_append.1 ha with h | h
    · exact ih A' (by simp at hn; omega) x (q :: B) (by rw [hQe]; simp) (.inl hx) a h
    · simp at h; subst h; exact hx

/-- THE OPERATIONS OF Q TURN MEMORY, ONE BEHIND THE OTHER; THE OTHERS OF THE FIRST m ARE QUIET AT EVERY STAGE; THE REST IN THE ORDER OF THE TEXT -/
theorem k_stage {id : Nat} {l : List Oper} (m : Nat) (Q : List Nat) (C : Nat → World → Prop) (hm : P.follows .mixedOrders = true) (hb : backB 0 l = true) (ht : tailB m 0 l = true) (ho : ownB (dsts (l.take m)) = true) (hr : readB l m 0 (l.take m) = true)
    (hu : upM Q = true) (hord : ordM (cloM l []) Q = true) (hQ : Q.all (fun q => Nat.blt q m && Nat.blt q l.length) = true) (hC : C 0 w.drew)
    (h : qg P n l C Q (fun s e' => ∀ w', C s w' → ow P n l (kw P n R k) (l.drop m) e' w') Q 0 0 (l.take m) e) :
    kw P n R (.code (.region id l.toArray true) :: k) e w := by
  have hQ' : ∀ q ∈ Q, q < m ∧ q < l.length := fun q hq => by
    have := List.all_eq_true.1 hQ q hq
    simpa [Nat.blt_eq] using this
  obtain ⟨v, hv, hloud, hK⟩ := qg_vals (l.take m) Q 0 0 e h (fun q hq => by have := hQ' q hq; rw [List.length_take]; omega) (upM_spec Q hu)
  have hslot : ∀ i, i < m → slotOf (l.take m) i = slotOf l i := by
    intro i hi
    rw [← slotOf_eq, ← slotOf_eq, List.getElem?_take, if_pos hi]
  have hlen : (l.take m).length ≤ m := by rw [List.length_take]; omega
  have hown : ∀ i j d, i < m → j < m → slotOf l i = some d → slotOf l j = some d → i = j := by
    intro i j d hi hj h1 h2
    have conv : ∀ i, i < m → slotOf l i = some d → (dsts (l.take m))[i]? = some (some d) := by
      intro i hi h1
      rw [← slotOf_eq] at h1
      cases hl : l[i]? with
      | none => rw [hl] at h1; simp at h1
      | some o => rw [hl] at h1; simp at h1; simp [dsts, List.getElem?_take, hi, hl, h1]
    exact ownB_spec _ ho i j d (conv i hi h1) (conv j hj h2)
  have henv : ∀ i, i ≤ m → ∀ t, (∀ j, j < i → slotOf l j ≠ some t) → envAt (l.take m) v e i t = e t := by
    intro i
    induction i with
    | zero => intro _ t _; rfl
    | succ i ih =>
      intro hi t h
      show updo (envAt (l.take m) v e i) (slotOf (l.take m) i) (v i) t = e t
      rw [hslot i (by omega)]
      cases hs : slotOf l i with
      | none => exact ih (by omega) t (fun j hj => h j (by omega))
      | some d =>
        have hne : t ≠ d := fun hh => h i (by omega) (by rw [hs, hh])
        show upd _ d (v i) t = e t
        unfold upd
        rw [beqf hne]
        exact ih (by omega) t (fun j hj => h j (by omega))
  have hval : ∀ i, i ≤ m → ∀ j, j < i → ∀ t, slotOf l j = some t → envAt (l.take m) v e i t = v j := by
    intro i
    induction i with
    | zero => intro _ j hj; omega
    | succ i ih =>
      intro hi j hj t hs
      show updo (envAt (l.take m) v e i) (slotOf (l.take m) i) (v i) t = v j
      rw [hslot i (by omega)]
      by_cases hji : j = i
      · subst hji
        rw [hs]
        simp [updo, upd]
      · cases hsi : slotOf l i with
        | none => exact ih (by omega) j (by omega) t hs
        | some d =>
          have hne : t ≠ d := fun hh => hji (hown j i d (by omega) (by omega) (by rw [hs, hh]) hsi)
          show upd _ d (v i) t = v j
          unfold upd
          rw [beqf hne]
          exact ih (by omega) j (by omega) t hs
  refine k_anyG m (fun _ _ => True) (fun i u _ => slotOf l i = none ∨ u = v i) [] (fun D w' => C (stg D Q) w') hm hb ht ho hr (fun _ => trivial) (fun _ _ _ _ _ => trivial) (fun _ _ _ _ h _ => h) (fun _ h => by simp at h) ?_ ?_ ?_
  · have : stg (fun _ => false) Q = 0 := by cases Q <;> rfl
    rw [this]; exact hC
  · intro i o him hl D e' w' hDi hdep hSh hG _ hA hD
    have hlm : (l.take m)[i]? = some o := by rw [List.getElem?_take, if_pos him]; exact hl
    obtain ⟨h1, h2, h3⟩ := readB_spec l m _ 0 hr i o hlm
    rw [Nat.zero_add] at h1
    have hsame : ∀ t, t ∈ o.looksAt l.toArray → envAt (l.take m) v e i t = e' t := by
      intro t htl
      by_cases hex : ∃ j, j < m ∧ slotOf l j = some t
      · obtain ⟨j, hjm, hs⟩ := hex
        have hji : j ≠ i := by
          rintro rfl
          rw [slotOf_dst hl] at hs
          exact h3 t hs htl
        have hjd := h1 j t hjm hji hs htl
        have hlt := backB_spec l 0 hb i o hl j hjd
        rw [hval i (by omega) j (by omega) t hs]
        rcases hD j hjd t hs with hn | hn
        · rw [hs] at hn; cases hn
        · exact hn.symm
      · have hno : ∀ j, j < m → slotOf l j ≠ some t := fun j hj hs => hex ⟨j, hj, hs⟩
        rw [henv i (by omega) t (fun j hj => hno j (by omega)), hA t hno]
    have fin : ∀ s', (ow P n l (fun e2 w2 => e2 = updo (envAt (l.take m) v e i) o.dst (v i) ∧ C s' w2) [o] (envAt (l.take m) v e i) w') → stg (fun x => if x = i then true else D x) Q = s' →
        ow P n l (fun e2 w2 => True ∧ (slotOf l i = none ∨ rdo e2 o.dst = v i) ∧ (i ∈ [] → w'.heap.size ≤ vb (rdo e2 o.dst)) ∧ C (stg (fun x => if x = i then true else D x) Q) w2) [o] e' w' := by
      intro s' hrun hs'
      refine ow_mono ?_ (ow_congr (e1 := envAt (l.take m) v e i) (e2 := e') h2 hsame hrun)
      rintro e2 w2 ⟨rfl, hC2⟩
      refine ⟨trivial, ?_, fun h => by simp at h, hs' ▸ hC2⟩
      rw [slotOf_dst hl]
      cases o.dst with
      | none => exact .inl rfl
      | some d => right; simp [rdo, updo, upd]
    by_cases hiQ : i ∈ Q
    · obtain ⟨A, B, hAB⟩ := List.append_of_mem hiQ
      have hahead := ahead hSh hord (fun q hq => (hQ' q hq).2) A i B hAB (.inr ⟨o, hl, hdep⟩)
      have hs0 : stg D Q = A.length := by
        rw [hAB, stg_split A B i hahead, stg, hDi]
        rfl
      have hrun := hloud A B i hAB i o hlm (by omega) w' (by rw [Nat.zero_add, ← hs0]; exact hG)
      refine fin _ hrun ?_
      rw [Nat.zero_add]
      have hA1 : ∀ a ∈ A, (if a = i then true else D a) = true := fun a ha => by
        split
        · rfl
        · exact hahead a ha
      rw [hAB, stg_split (D := fun x => if x = i then true else D x) A B i hA1, stg]
      simp only [if_true, cond_true]
      cases B with
      | nil => rfl
      | cons b B =>
        have hpw := upM_spec Q hu
        rw [hAB] at hpw
        have hlt : i < b := (List.pairwise_cons.1 (List.pairwise_append.1 hpw).2.1).1 b (by simp)
        have hDb : D b = false := by
          cases hbv : D b with
          | false => rfl
          | true =>
            have := ahead hSh hord (fun q hq => (hQ' q hq).2) (A ++ [i]) b B (by rw [hAB]; simp) (.inl hbv) i (by simp)
            rw [hDi] at this
            cases this
        have hne : ¬ b = i := by omega
        rw [stg]
        simp [hne, hDb]
    · refine fin _ (hv i o hlm (by rwa [Nat.zero_add]) (stg D Q) w' ?_ ?_ hG) ?_
      · rw [Nat.zero_add]
        exact stg_mono Q (fun q _ hq => done_of hSh hl hdep hq)
      · rw [Nat.zero_add]
        refine stg_mono Q (fun q hqm hq => ?_)
        have hql := (hQ' q hqm).2
        cases hbt : bitM (cloM l []) q i with
        | false => rfl
        | true =>
          have := done_at hSh (List.getElem?_eq_getElem hql) hq hbt
          rw [hDi] at this
          cases this
      · refine stg_congr Q (fun q hq => ?_)
        have : ¬ q = i := fun h => hiQ (h ▸ hq)
        simp [this]
  · intro D e' w' hall hG _ hA hV _ _
    have heq : e' = envAt (l.take m) v e (l.take m).length := by
      funext t
      by_cases hex : ∃ j, j < m ∧ slotOf l j = some t
      · obtain ⟨j, hjm, hs⟩ := hex
        have hjl : j < (l.take m).length := by
          rw [List.length_take]
          rw [← slotOf_eq] at hs
          cases hl : l[j]? with
          | none => rw [hl] at hs; simp at hs
          | some o => have := (List.getElem?_eq_some_iff.1 hl).1; omega
        rw [hval _ hlen j hjl t hs]
        rcases hV j hjm t hs with hn | hn
        · rw [hs] at hn; cases hn
        · exact hn
      · have hno : ∀ j, j < m → slotOf l j ≠ some t := fun j hj hs => hex ⟨j, hj, hs⟩
        rw [henv _ hlen t (fun j hj => hno j (by omega)), hA t hno]
    rw [heq]
    have hst : stg D Q = Q.length := by
      have : ∀ (Q' : List Nat), (∀ q ∈ Q', D q = true) → stg D Q' = Q'.length := by
        intro Q'
        induction Q' with
        | nil => intro _; rfl
        | cons q Q' ih =>
          intro h
          rw [stg, h q (by simp), ih (fun x hx => h x (by simp [hx]))]
          rfl
      exact this Q (fun q hq => hall q (hQ' q hq).1 (hQ' q hq).2)
    rw [Nat.zero_add] at hK
    exact hK w' (hst ▸ hG)

end E
end Go.Proofs.Ytbfphjhahgpndaa
