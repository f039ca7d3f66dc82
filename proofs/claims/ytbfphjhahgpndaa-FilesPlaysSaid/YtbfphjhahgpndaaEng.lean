/- The engine of the walks of this seat: the code of a Go function is run over an environment (a function from slots to values) and a stack of what follows; one rule for each form of code. No condition. -/
import Derived.Test.YtbfphjhahgpndaaProg
import Derived.WalkKit
import Derived.Deep.Quiet
import Derived.Deep.LoopGhost
namespace Go.Proofs.Ytbfphjhahgpndaa
open Go.RowKit
set_option linter.unusedVariables false
set_option linter.unusedSimpArgs false
namespace E

abbrev Env := Nat → Value
def upd (e : Env) (d : Nat) (v : Value) : Env := fun t => bif Nat.beq t d then v else e t
def updo (e : Env) (d : Option Nat) (v : Value) : Env := match d with | some d => upd e d v | none => e
def act (n : Nat) (e : Env) : Act := ⟨Array.ofFn (fun i : Fin n => e i), []⟩
def ev (n : Nat) (e : Env) : Operand → Value
  | .tmp t => bif Nat.blt t n then e t else undef
  | .const v => v
  | .global g => .pointer (some ⟨g, 0, none⟩)
  | .func f => .func (.func f) #[] #[]

theorem act_eval (n : Nat) (e : Env) : (act n e).eval = ev n e := by
  funext x
  cases x with
  | tmp t =>
    simp only [Act.eval, act, ev, Array.getD_eq_getD_getElem?, Array.getElem?_ofFn]
    cases hb : Nat.blt t n with
    | true =>
      have h : t < n := by rw [Nat.blt_eq] at hb; exact hb
      simp [h]
    | false =>
      have h : ¬ t < n := fun h => by rw [← Nat.blt_eq, hb] at h; cases h
      simp [h]
  | _ => rfl

theorem act_put (n : Nat) (e : Env) (d : Option Nat) (v : Value) : (act n e).put d v = act n (updo e d v) := by
  cases d with
  | none => rfl
  | some d =>
    simp only [Act.put, act, updo]
    congr 1
    apply Array.ext
    · simp
    · intro i h1 h2
      have h2' : i < n := by simpa using h2
      rw [Array.getElem_setIfInBounds (by simpa using h2')]
      simp only [Array.getElem_ofFn, upd]
      cases hb : Nat.beq i d with
      | true => rw [if_pos (Nat.eq_of_beq_eq_true hb).symm]; rfl
      | false => rw [if_neg (fun e => Nat.ne_of_beq_eq_false hb e.symm)]; rfl

/-- what stands on the stack -/
inductive KI where
  | code (c : Code)
  | blk (id : Nat)
  | goal (G : Env → World → Prop)

variable {P : Program} {n : Nat} {R : Exit → Env → World → Prop}

def cw (P : Program) (n : Nat) (c : Code) (Q : Exit → Env → World → Prop) (e : Env) (w : World) : Prop :=
  c.wp P (fun x a w' => ∃ e', a = act n e' ∧ Q x e' w') (act n e) w

theorem cw_mono {c : Code} {Q Q' : Exit → Env → World → Prop} {e : Env} {w : World} (h : cw P n c Q e w) (hq : ∀ x e w, Q x e w → Q' x e w) : cw P n c Q' e w :=
  wp_mono h fun _ _ _ ⟨e', ha, hh⟩ => ⟨e', ha, hq _ _ _ hh⟩

/-- what is asked where code arrives by an exit at the stack -/
def kq (P : Program) (n : Nat) (R : Exit → Env → World → Prop) : List KI → Exit → Env → World → Prop
  | [], x, e, w => R x e w
  | .code c :: k, .normal, e, w => cw P n c (kq P n R k) e w
  | .code _ :: k, x, e, w => kq P n R k x e w
  | .blk _ :: k, .normal, e, w => kq P n R k .normal e w
  | .blk id :: k, .exit id', e, w => if id' = id then kq P n R k .normal e w else kq P n R k (.exit id') e w
  | .blk _ :: k, x, e, w => kq P n R k x e w
  | .goal G :: _, .normal, e, w => G e w
  | .goal _ :: k, x, e, w => kq P n R k x e w

/-- run the stack -/
def kw (P : Program) (n : Nat) (R : Exit → Env → World → Prop) (k : List KI) (e : Env) (w : World) : Prop := kq P n R k .normal e w

variable {k : List KI} {e : Env} {w : World}

theorem k_end (h : R .normal e w) : kw P n R [] e w := h
theorem k_goal {G : Env → World → Prop} (h : G e w) : kw P n R (.goal G :: k) e w := h
theorem k_blk {id : Nat} (h : kw P n R k e w) : kw P n R (.blk id :: k) e w := h
theorem k_skip (h : kw P n R k e w) : kw P n R (.code .skip :: k) e w := wp_skip ⟨e, rfl, h⟩
theorem k_label {l : Nat} (h : kw P n R k e w) : kw P n R (.code (.label l) :: k) e w := wp_label ⟨e, rfl, h⟩

theorem k_seq {a b : Code} (h : kw P n R (.code a :: .code b :: k) e w) : kw P n R (.code (.seq a b) :: k) e w := by
  refine wp_seq (wp_mono (h : cw P n a (kq P n R (.code b :: k)) e w) ?_)
  rintro x a' w' ⟨e', rfl, hh⟩
  cases x with
  | normal => exact (hh : cw P n b (kq P n R k) e' w')
  | _ => exact ⟨e', rfl, hh⟩

theorem k_block {id : Nat} {c : Code} (h : kw P n R (.code c :: .blk id :: k) e w) : kw P n R (.code (.block id c) :: k) e w := by
  refine wp_block (wp_mono (h : cw P n c (kq P n R (.blk id :: k)) e w) ?_)
  rintro x a' w' ⟨e', rfl, hh⟩
  cases x with
  | exit id' =>
    simp only [kq] at hh
    simp only [Exit.inBlock]
    by_cases hid : id' = id
    · simp only [hid, if_true] at hh ⊢; exact ⟨e', rfl, hh⟩
    · simp only [hid, if_false] at hh ⊢; exact ⟨e', rfl, hh⟩
  | _ => exact ⟨e', rfl, hh⟩

theorem k_cond {c : Operand} {x y : Code} {p : Prop} [Decidable p] (hc : ev n e c = .bool (decide p)) (ht : p → kw P n R (.code x :: k) e w) (hf : ¬ p → kw P n R (.code y :: k) e w) :
    kw P n R (.code (.cond c x y) :: k) e w := by
  refine wp_cond_split (t := decide p) (by rw [act_eval]; exact hc) (fun h => ht (of_decide_eq_true h)) (fun h => hf (of_decide_eq_false h))

theorem k_yes {c : Operand} {x y : Code} {p : Prop} [Decidable p] (hc : ev n e c = .bool (decide p)) (hp : p) (ht : kw P n R (.code x :: k) e w) : kw P n R (.code (.cond c x y) :: k) e w :=
  k_cond hc (fun _ => ht) (fun hn => absurd hp hn)
theorem k_no {c : Operand} {x y : Code} {p : Prop} [Decidable p] (hc : ev n e c = .bool (decide p)) (hp : ¬ p) (hf : kw P n R (.code y :: k) e w) : kw P n R (.code (.cond c x y) :: k) e w :=
  k_cond hc (fun h => absurd h hp) (fun _ => hf)

theorem k_condt {c : Operand} {x y : Code} (hc : ev n e c = .bool true) (ht : kw P n R (.code x :: k) e w) : kw P n R (.code (.cond c x y) :: k) e w :=
  wp_cond_true (by rw [act_eval]; exact hc) ht

theorem k_condf {c : Operand} {x y : Code} (hc : ev n e c = .bool false) (hf : kw P n R (.code y :: k) e w) : kw P n R (.code (.cond c x y) :: k) e w :=
  wp_cond_false (by rw [act_eval]; exact hc) hf

theorem k_condb {c : Operand} {x y : Code} {b : Bool} (hc : ev n e c = .bool b) (ht : b = true → kw P n R (.code x :: k) e w) (hf : b = false → kw P n R (.code y :: k) e w) :
    kw P n R (.code (.cond c x y) :: k) e w :=
  wp_cond_split (t := b) (by rw [act_eval]; exact hc) ht hf

/-- where an exit leads -/
def exitK (id : Nat) : List KI → Option (List KI)
  | [] => none
  | .blk id' :: k => bif Nat.beq id id' then some k else exitK id k
  | .code _ :: k => exitK id k
  | .goal _ :: k => exitK id k

theorem kq_exit {id : Nat} : ∀ {k k' : List KI}, exitK id k = some k' → kq P n R k' .normal e w → kq P n R k (.exit id) e w
  | [], _, h, _ => by simp [exitK] at h
  | .blk id' :: k, k', h, hk => by
    simp only [exitK] at h
    simp only [kq]
    cases hb : Nat.beq id id' with
    | true =>
      rw [hb] at h
      simp at h
      subst h
      rw [if_pos (Nat.eq_of_beq_eq_true hb)]
      exact hk
    | false =>
      rw [hb] at h
      rw [if_neg (Nat.ne_of_beq_eq_false hb)]
      exact kq_exit (k := k) (by simpa using h) hk
  | .code _ :: k, k', h, hk => kq_exit (k := k) h hk
  | .goal _ :: k, k', h, hk => kq_exit (k := k) h hk

theorem k_exit {id : Nat} {k' : List KI} (h : exitK id k = some k') (hk : kw P n R k' e w) : kw P n R (.code (.exit id) :: k) e w :=
  wp_exit ⟨e, rfl, kq_exit h hk⟩

theorem kq_ret : ∀ {k : List KI}, R .ret e w → kq P n R k .ret e w
  | [], h => h
  | .blk _ :: k, h => kq_ret (k := k) h
  | .code _ :: k, h => kq_ret (k := k) h
  | .goal _ :: k, h => kq_ret (k := k) h

theorem k_ret (h : R .ret e w) : kw P n R (.code .ret :: k) e w := wp_ret ⟨e, rfl, kq_ret h⟩

/-! ### the environment read as a list -/
def Has : List (Nat × Value) → Env → Prop
  | [], _ => True
  | (t, v) :: l, e => e t = v ∧ Has l e
def ovr : List (Nat × Value) → Env → Env
  | [], e => e
  | (t, v) :: l, e => upd (ovr l e) t v

theorem upd_self {t : Nat} {v : Value} (h : e t = v) : upd e t v = e := by
  funext i
  unfold upd
  cases hb : Nat.beq i t with
  | true => rw [Nat.eq_of_beq_eq_true hb]; exact h.symm
  | false => rfl

theorem ovr_self : ∀ {l : List (Nat × Value)}, Has l e → ovr l e = e
  | [], _ => rfl
  | (t, v) :: l, h => by
    show upd (ovr l e) t v = e
    rw [ovr_self h.2]
    exact upd_self h.1

/-- forget all slots but those of the list -/
theorem k_gen (l : List (Nat × Value)) (h : Has l e) (H : ∀ e, kw P n R k (ovr l e) w) : kw P n R k e w := by
  have := H e
  rwa [ovr_self h] at this

theorem kq_mono_top {x : KI} {G : Env → World → Prop} (hG : ∀ e w, G e w → kw P n R k e w) (h : kw P n R (x :: .goal G :: k) e w) : kw P n R (x :: k) e w := by
  cases x with
  | code c =>
    refine cw_mono (h : cw P n c (kq P n R (.goal G :: k)) e w) fun x e w hh => ?_
    cases x with
    | normal => exact hG _ _ hh
    | _ => exact hh
  | blk id => exact hG _ _ h
  | goal G' => exact h

/-- the ways through the first thing of the stack meet again behind it -/
theorem k_cut {σ : Type} {x : KI} (L : σ → List (Nat × Value)) (J : σ → World → Prop)
    (h1 : kw P n R (x :: .goal (fun e w => ∃ s, Has (L s) e ∧ J s w) :: k) e w) (h2 : ∀ s e w, J s w → kw P n R k (ovr (L s) e) w) : kw P n R (x :: k) e w :=
  kq_mono_top (fun e w ⟨s, hs, hJ⟩ => by have := h2 s e w hJ; rwa [ovr_self hs] at this) h1

/-- a loop: what the slots hold at each round's head is a function of a state -/
theorem k_loop {σ : Type} {c : Code} (L : σ → List (Nat × Value)) (J : σ → World → Prop) (μ : σ → Nat) (s0 : σ) (h0 : Has (L s0) e) (hJ : J s0 w)
    (round : ∀ s e w, J s w → kw P n R (.code c :: .goal (fun e' w' => ∃ s', Has (L s') e' ∧ J s' w' ∧ μ s' < μ s) :: k) (ovr (L s) e) w) :
    kw P n R (.code (.loop c) :: k) e w := by
  have key : (Code.loop c).wp P (fun x a w' => ∃ e', a = act n e' ∧ kq P n R k x e' w') (act n e) w := by
    refine wp_loop_ghost (fun m a w => ∃ s e, a = act n e ∧ Has (L s) e ∧ J s w ∧ μ s = m) (μ s0) ⟨s0, e, rfl, h0, hJ, rfl⟩ ?_
    rintro m a w ⟨s, e, rfl, hL, hJ, rfl⟩
    have h := round s e w hJ
    rw [ovr_self hL] at h
    refine wp_mono (h : cw P n c (kq P n R (.goal _ :: k)) e w) ?_
    rintro x a' w' ⟨e', rfl, hh⟩
    cases x with
    | normal =>
      obtain ⟨s', h1, h2, h3⟩ := hh
      exact ⟨μ s', h3, s', e', rfl, h1, h2, rfl⟩
    | _ => exact ⟨e', rfl, hh⟩
  exact key

/-! ### operations -/
def opW (P : Program) (n : Nat) (o : Oper) (e : Env) (w : World) (K : Value → World → Prop) : Prop :=
  match (execOp (ev n e) o).run P w with
  | .ok (.value v) w' => K v w'
  | .ok .skip w' => K undef w'
  | .ok (.enter f args) w' => Calls P f args w' (fun x w'' => match x with | .returned v => K v w'' | _ => False)
  | _ => False

def ow (P : Program) (n : Nat) (l0 : List Oper) (K : Env → World → Prop) : List Oper → Env → World → Prop
  | [], e, w => K e w
  | o :: l, e, w => if Region.wanted o (yielded l0.toArray (act n e).tmps) then opW P n o e w (fun v w' => ow P n l0 K l (updo e o.dst v) w') else ow P n l0 K l (updo e o.dst undef) w

theorem wpList_of_ow {l0 : List Oper} {K : Env → World → Prop} {Q : Exit → Act → World → Prop} (hQ : ∀ e w, K e w → Q .normal (act n e) w) :
    ∀ (l : List Oper) (e : Env) (w : World), ow P n l0 K l e w → wpList P l0.toArray Q l (act n e) w
  | [], e, w, h => hQ _ _ h
  | o :: l, e, w, h => by
    unfold wpList
    unfold ow at h
    split
    · rename_i hw
      rw [if_pos hw] at h
      refine .inl ?_
      unfold opW at h
      unfold Oper.wp
      rw [act_eval]
      split at h
      · rename_i v w' hr
        rw [hr, Oper.upon_value, act_put]
        exact wpList_of_ow hQ l _ _ h
      · rename_i w' hr
        rw [hr, Oper.upon_skip, act_put]
        exact wpList_of_ow hQ l _ _ h
      · rename_i f args w' hr
        rw [hr, Oper.upon_enter]
        refine Calls.mono h fun x w'' hx => ?_
        cases x with
        | returned v =>
          show wpList P l0.toArray Q l ((act n e).put o.dst v) w''
          rw [act_put]
          exact wpList_of_ow hQ l _ _ hx
        | panicked c => exact hx.elim
        | outgrown => exact hx.elim
      · exact h.elim
    · rename_i hw
      rw [if_neg hw] at h
      rw [act_put]
      exact wpList_of_ow hQ l _ _ h

theorem k_region {id : Nat} {l : List Oper} (h : ow P n l (kw P n R k) l e w) : kw P n R (.code (.region id l.toArray false) :: k) e w :=
  wp_region_lit (wpList_of_ow (fun e w hk => ⟨e, rfl, hk⟩) l e w h)

theorem o_nil {l0 : List Oper} {K : Env → World → Prop} (h : K e w) : ow P n l0 K [] e w := h

section ops
variable {l0 l : List Oper} {K : Env → World → Prop} {d : Option Nat} {op : Op} {T : TypeId} {pos : String} {af : Array Edge}

/-- one operation without a guard, by its run -/
theorem o_run {v : Value} {w' : World} (hr : (execOp (ev n e) ⟨d, op, T, pos, af, none⟩).run P w = .ok (.value v) w') (h : ow P n l0 K l (updo e d v) w') :
    ow P n l0 K (⟨d, op, T, pos, af, none⟩ :: l) e w := by
  unfold ow
  rw [if_pos (by simp [Region.wanted])]
  unfold opW
  rw [hr]
  exact h

theorem o_runs {w' : World} (hr : (execOp (ev n e) ⟨d, op, T, pos, af, none⟩).run P w = .ok .skip w') (h : ow P n l0 K l (updo e d undef) w') :
    ow P n l0 K (⟨d, op, T, pos, af, none⟩ :: l) e w := by
  unfold ow
  rw [if_pos (by simp [Region.wanted])]
  unfold opW
  rw [hr]
  exact h

/-- the slot that an operation writes -/
def slotOf : List Oper → Nat → Option Nat
  | [], _ => none
  | o :: _, 0 => o.dst
  | _ :: l, i + 1 => slotOf l i

theorem slotOf_eq : ∀ (l : List Oper) (j : Nat), (l[j]?).bind (·.dst) = slotOf l j
  | [], _ => by simp [slotOf]
  | o :: _, 0 => by simp [slotOf]
  | _ :: l, i + 1 => by simp [slotOf, slotOf_eq l i]

theorem yielded_act {j t : Nat} {b : Bool} (hs : slotOf l0 j = some t) (hv : ev n e (.tmp t) = .bool b) : yielded l0.toArray (act n e).tmps j = some b := by
  unfold yielded
  rw [List.getElem?_toArray, slotOf_eq, hs]
  simp only [ev] at hv
  cases hb : Nat.blt t n with
  | false => rw [hb] at hv; simp [undef] at hv
  | true =>
    rw [hb] at hv
    simp only [cond_true] at hv
    have ht : t < n := by rw [Nat.blt_eq] at hb; exact hb
    simp [act, ht, hv]

theorem g_yes {j t : Nat} {b : Bool} (hs : slotOf l0 j = some t) (hv : ev n e (.tmp t) = .bool b) (h : ow P n l0 K (⟨d, op, T, pos, af, none⟩ :: l) e w) :
    ow P n l0 K (⟨d, op, T, pos, af, some (j, b)⟩ :: l) e w := by
  unfold ow at h ⊢
  rw [if_pos (by simp [Region.wanted])] at h
  rw [if_pos (by simp [Region.wanted, yielded_act hs hv])]
  exact h

theorem g_no {j t : Nat} {b b' : Bool} (hs : slotOf l0 j = some t) (hv : ev n e (.tmp t) = .bool b') (hb : b' = !b) (h : ow P n l0 K l (updo e d undef) w) :
    ow P n l0 K (⟨d, op, T, pos, af, some (j, b)⟩ :: l) e w := by
  unfold ow
  rw [if_neg (by subst hb; cases b <;> simp [Region.wanted, yielded_act hs hv])]
  exact h

/-- a slot that holds a bool: two ways -/
theorem o_split {t : Nat} {p : Prop} [Decidable p] (h : e t = .bool (decide p)) (ht : p → ow P n l0 K l (upd e t (.bool true)) w) (hf : ¬ p → ow P n l0 K l (upd e t (.bool false)) w) : ow P n l0 K l e w := by
  by_cases hp : p
  · have := ht hp
    rwa [upd_self (by rw [h]; simp [hp])] at this
  · have := hf hp
    rwa [upd_self (by rw [h]; simp [hp])] at this

theorem o_true {t : Nat} {p : Prop} [Decidable p] (h : e t = .bool (decide p)) (hp : p) (ht : ow P n l0 K l (upd e t (.bool true)) w) : ow P n l0 K l e w := by
  rwa [upd_self (by rw [h]; simp [hp])] at ht
theorem o_false {t : Nat} {p : Prop} [Decidable p] (h : e t = .bool (decide p)) (hp : ¬ p) (ht : ow P n l0 K l (upd e t (.bool false)) w) : ow P n l0 K l e w := by
  rwa [upd_self (by rw [h]; simp [hp])] at ht

/-! ### calls -/
/-- the call returns, and what it returns and leaves is as S says -/
def Ret (P : Program) (f : FuncId) (args : List Value) (w : World) (S : Value → World → Prop) : Prop :=
  Calls P f args.toArray w (fun x w' => match x with | .returned v => S v w' | _ => False)

theorem Ret.mono {f : FuncId} {args : List Value} {S S' : Value → World → Prop} (h : Ret P f args w S) (hs : ∀ v w', S v w' → S' v w') : Ret P f args w S' :=
  Calls.mono h fun x w' hx => by cases x <;> first | exact hs _ _ hx | exact hx

theorem Ret.calls {f : FuncId} {args : List Value} {S : Value → World → Prop} (h : Ret P f args w S) : Calls P f args.toArray w (fun x w' => ∃ v, x = .returned v ∧ S v w') :=
  Calls.mono h fun x w' hx => by cases x <;> first | exact ⟨_, rfl, hx⟩ | exact hx.elim

def callOk (P : Program) (f : FuncId) : Bool :=
  match P.funcs[f]? with
  | some fn => !(fn.name == "runtime.NumGoroutine") && fn.body.isSome
  | none => false

def evs (n : Nat) (e : Env) : List Operand → List Value
  | [] => []
  | x :: l => ev n e x :: evs n e l
theorem evs_eq (n : Nat) (e : Env) : ∀ l : List Operand, l.map (ev n e) = evs n e l
  | [] => rfl
  | x :: l => by simp [evs, evs_eq n e l]

theorem run_call {f : FuncId} {args : List Operand} {ts : Array TypeId} (hf : callOk P f = true) :
    (execOp (ev n e) ⟨d, .call ⟨.value (.func f), args.toArray, ts⟩, T, pos, af, none⟩).run P w = .ok (.enter f (evs n e args).toArray) w := by
  unfold callOk at hf
  split at hf
  · rename_i fn hfn
    simp only [Bool.and_eq_true, Bool.not_eq_true'] at hf
    have hb : ¬ fn.body = none := by cases h : fn.body <;> simp_all
    have hn : ¬ fn.name = "runtime.NumGoroutine" := by simpa using hf.1
    simp [execOp, resolve, Deferred.ofValue, invoke, callFunc, ev, hfn, hn, hb, ← evs_eq]
  · cases hf

theorem o_call {f : FuncId} {args : List Operand} {vs : List Value} {ts : Array TypeId} {S : Value → World → Prop} (hf : callOk P f = true) (hv : evs n e args = vs) (hc : Ret P f vs w S)
    (h : ∀ v w', S v w' → ow P n l0 K l (updo e d v) w') : ow P n l0 K (⟨d, .call ⟨.value (.func f), args.toArray, ts⟩, T, pos, af, none⟩ :: l) e w := by
  unfold ow
  rw [if_pos (by simp [Region.wanted])]
  unfold opW
  rw [run_call hf, hv]
  exact Calls.mono hc fun x w' hx => by
    cases x with
    | returned v => exact h _ _ hx
    | _ => exact hx
end ops

/-! ### a function -/
def resV (n : Nat) (e : Env) : List Nat → Value
  | [t] => ev n e (.tmp t)
  | ts => .tuple (ts.map fun t => ev n e (.tmp t)).toArray

def retR (P : Program) (F : Func) (n : Nat) (S : Value → World → Prop) : Exit → Env → World → Prop
  | .normal, e, w | .ret, e, w => ∃ v, (results F (act n e).tmps).run P w = .ok v w ∧ S v w
  | _, _, _ => False

theorem run_results {F : Func} {ts : List Nat} (hr : F.results = (ts.map ResultVar.tmp).toArray) : (results F (act n e).tmps).run P w = .ok (resV n e ts) w := by
  have hg : ∀ t, (act n e).tmps.getD t undef = ev n e (.tmp t) := fun t => by rw [← act_eval]; rfl
  have hm : ∀ (ts : List Nat) (acc : Array Value), ((ts.map ResultVar.tmp).foldlM (fun (bs : Array Value) a => (fun b => bs.push b) <$> (match a with
      | .tmp t => pure ((act n e).tmps.getD t undef)
      | .cell a t => do loadVar t (← asAddr ((act n e).tmps.getD a undef)) : Sem Value)) acc).run P w = .ok (acc ++ (ts.map fun t => ev n e (.tmp t)).toArray) w := by
    intro ts
    induction ts with
    | nil => intro acc; simp
    | cons t ts ih =>
      intro acc
      rw [List.map_cons, List.foldlM_cons, Sem.run_bind, Sem.run_map, Sem.run_pure, Result.andThen_ok, Result.andThen_ok, ih, hg]
      simp
  have hall : (F.results.mapM (fun
      | .tmp t => pure ((act n e).tmps.getD t undef)
      | .cell a t => do loadVar t (← asAddr ((act n e).tmps.getD a undef)) : ResultVar → Sem Value)).run P w = .ok (ts.map fun t => ev n e (.tmp t)).toArray w := by
    rw [hr, Array.mapM_eq_foldlM, ← Array.foldlM_toList]
    have := hm ts #[]
    simpa using this
  have hres : (results F (act n e).tmps).run P w = ((F.results.mapM (fun
      | .tmp t => pure ((act n e).tmps.getD t undef)
      | .cell a t => do loadVar t (← asAddr ((act n e).tmps.getD a undef)) : ResultVar → Sem Value)).run P w).andThen
        (fun vs w' => (pure (if h : vs.size = 1 then vs[0] else .tuple vs) : Sem Value).run P w') := Sem.run_bind P w _ _
  rw [hres, hall, Result.andThen_ok, Sem.run_pure]
  match ts with
  | [] => simp [resV]
  | [t] => simp [resV]
  | t :: u :: r => simp [resV]

theorem ret_tmps {F : Func} {S : Value → World → Prop} {ts : List Nat} {v : Value} (hr : F.results = (ts.map ResultVar.tmp).toArray) (hv : resV n e ts = v) (h : S v w) : retR P F n S .ret e w :=
  ⟨_, run_results hr, hv ▸ h⟩
theorem end_tmps {F : Func} {S : Value → World → Prop} {ts : List Nat} {v : Value} (hr : F.results = (ts.map ResultVar.tmp).toArray) (hv : resV n e ts = v) (h : S v w) : retR P F n S .normal e w :=
  ⟨_, run_results hr, hv ▸ h⟩

def argsL : Nat → List Value → List (Nat × Value)
  | _, [] => []
  | i, v :: l => (i, v) :: argsL (i + 1) l

theorem ovr_args (e : Env) : ∀ (l : List Value) (i t : Nat), ovr (argsL i l) e t = if i ≤ t ∧ t < i + l.length then l.getD (t - i) undef else e t
  | [], i, t => by
    rw [if_neg (by simp)]
    rfl
  | v :: l, i, t => by
    simp only [argsL, ovr, upd]
    cases hb : Nat.beq t i with
    | true =>
      have := Nat.eq_of_beq_eq_true hb
      subst this
      simp
    | false =>
      have hne := Nat.ne_of_beq_eq_false hb
      rw [cond_false, ovr_args e l (i + 1) t]
      by_cases hc : i ≤ t ∧ t < i + (v :: l).length
      · rw [if_pos hc, if_pos (by simp at hc ⊢; omega)]
        obtain ⟨m, hm⟩ : ∃ m, t - i = m + 1 := ⟨t - i - 1, by omega⟩
        rw [hm, show t - (i + 1) = m by omega]
        simp
      · rw [if_neg hc, if_neg (by simp at hc ⊢; omega)]

theorem fn_enter {f : FuncId} {F : Func} {c : Code} {args : List Value} {S : Value → World → Prop} (hf : P.funcs[f]? = some F) (hb : F.body = some c) (hn : F.ntmps = n) (hl : args.length ≤ n)
    (h : ∀ e, kw P n (retR P F n S) [.code c] (ovr (argsL 0 args) e) w) : Ret P f args w S := by
  subst hn
  refine calls_of_wp hf hb ?_
  have ha : ({ tmps := args.toArray ++ Array.replicate (F.ntmps - args.toArray.size) undef, defers := [] } : Act) = act F.ntmps (ovr (argsL 0 args) (fun _ => undef)) := by
    unfold act
    congr 1
    apply Array.ext
    · simp; omega
    · intro i h1 h2
      simp only [Array.getElem_ofFn, ovr_args, Array.getElem_append, List.size_toArray, List.getElem_toArray, Array.getElem_replicate]
      by_cases hi : i < args.length
      · simp [hi]
      · simp [hi]
  rw [ha]
  refine wp_mono (h (fun _ => undef) : cw P F.ntmps c (kq P F.ntmps (retR P F F.ntmps S) []) _ w) ?_
  rintro x a w' ⟨e', rfl, hh⟩
  cases x with
  | normal => exact ⟨rfl, hh⟩
  | ret => exact ⟨rfl, hh⟩
  | _ => exact hh.elim

end E
end Go.Proofs.Ytbfphjhahgpndaa
