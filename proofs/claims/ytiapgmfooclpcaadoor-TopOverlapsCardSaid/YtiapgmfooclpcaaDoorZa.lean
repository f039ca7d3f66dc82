/- Texts of this proof laid together: Eng, Rul, Mem, Any, Ex, Ez, Frm, Map, Ey, Frx, Anz, Ew. No condition beyond what each lemma names. -/
import Derived.Test.YtiapgmfooclpcaaDoorProg
import Derived.WalkKit
import Derived.Deep.Quiet
import Derived.Deep.LoopGhost
import Derived.IntWalk
import Derived.ProofKit
import Derived.OpenShut
import Derived.ShutString
import Derived.ChangeOld
import Derived.SizedLaws
/- The engine of the walks of this seat: the code of a Go function is run over an environment (a function from slots to values) and a stack of what follows; one rule for each form of code. No condition. -/
namespace Go.Proofs.YtiapgmfooclpcaaDoor
open Go.RowKit
set_option linter.unusedVariables false
set_option linter.unusedSimpArgs false
namespace E

abbrev Env := Nat → Value
def upd (e : Env) (d : Nat) (v : Value) : Env := fun t => bif Nat.beq t d then v else e t
def updo (e : Env) (d : Option Nat) (v : Value) : Env := match d with | some d => upd e d v | none => e
def act (n : Nat) (e : Env) : Act := ⟨Array.ofFn (fun i : Fin n => e i), []⟩
def ev (n : Nat) (e : Env) : Operand → Value
  | .tmp t => bif Nat.blt t n then e t else undef
  | .const v => v
  | .global g => .pointer (some ⟨g, 0, none⟩)
  | .func f => .func (.func f) #[] #[]

theorem act_eval (n : Nat) (e : Env) : (act n e).eval = ev n e := by
  funext x
  cases x with
  | tmp t =>
    simp only [Act.eval, act, ev, Array.getD_eq_getD_getElem?, Array.getElem?_ofFn]
    cases hb : Nat.blt t n with
    | true =>
      have h : t < n := by rw [Nat.blt_eq] at hb; exact hb
      simp [h]
    | false =>
      have h : ¬ t < n := fun h => by rw [← Nat.blt_eq, hb] at h; cases h
      simp [h]
  | _ => rfl

theorem act_put (n : Nat) (e : Env) (d : Option Nat) (v : Value) : (act n e).put d v = act n (updo e d v) := by
  cases d with
  | none => rfl
  | some d =>
    simp only [Act.put, act, updo]
    congr 1
    apply Array.ext
    · simp
    · intro i h1 h2
      have h2' : i < n := by simpa using h2
      rw [Array.getElem_setIfInBounds (by simpa using h2')]
      simp only [Array.getElem_ofFn, upd]
      cases hb : Nat.beq i d with
      | true => rw [if_pos (Nat.eq_of_beq_eq_true hb).symm]; rfl
      | false => rw [if_neg (fun e => Nat.ne_of_beq_eq_false hb e.symm)]; rfl

/-- what stands on the stack -/
inductive KI where
  | code (c : Code)
  | blk (id : Nat)
  | goal (G : Env → World → Prop)

variable {P : Program} {n : Nat} {R : Exit → Env → World → Prop}

def cw (P : Program) (n : Nat) (c : Code) (Q : Exit → Env → World → Prop) (e : Env) (w : World) : Prop :=
  c.wp P (fun x a w' => ∃ e', a = act n e' ∧ Q x e' w') (act n e) w

theorem cw_mono {c : Code} {Q Q' : Exit → Env → World → Prop} {e : Env} {w : World} (h : cw P n c Q e w) (hq : ∀ x e w, Q x e w → Q' x e w) : cw P n c Q' e w :=
  wp_mono h fun _ _ _ ⟨e', ha, hh⟩ => ⟨e', ha, hq _ _ _ hh⟩

/-- what is asked where code arrives by an exit at the stack -/
def kq (P : Program) (n : Nat) (R : Exit → Env → World → Prop) : List KI → Exit → Env → World → Prop
  | [], x, e, w => R x e w
  | .code c :: k, .normal, e, w => cw P n c (kq P n R k) e w
  | .code _ :: k, x, e, w => kq P n R k x e w
  | .blk _ :: k, .normal, e, w => kq P n R k .normal e w
  | .blk id :: k, .exit id', e, w => if id' = id then kq P n R k .normal e w else kq P n R k (.exit id') e w
  | .blk _ :: k, x, e, w => kq P n R k x e w
  | .goal G :: _, .normal, e, w => G e w
  | .goal _ :: k, x, e, w => kq P n R k x e w

/-- run the stack -/
def kw (P : Program) (n : Nat) (R : Exit → Env → World → Prop) (k : List KI) (e : Env) (w : World) : Prop := kq P n R k .normal e w

variable {k : List KI} {e : Env} {w : World}

theorem k_end (h : R .normal e w) : kw P n R [] e w := h
theorem k_goal {G : Env → World → Prop} (h : G e w) : kw P n R (.goal G :: k) e w := h
theorem k_blk {id : Nat} (h : kw P n R k e w) : kw P n R (.blk id :: k) e w := h
theorem k_skip (h : kw P n R k e w) : kw P n R (.code .skip :: k) e w := wp_skip ⟨e, rfl, h⟩
theorem k_label {l : Nat} (h : kw P n R k e w) : kw P n R (.code (.label l) :: k) e w := wp_label ⟨e, rfl, h⟩

theorem k_seq {a b : Code} (h : kw P n R (.code a :: .code b :: k) e w) : kw P n R (.code (.seq a b) :: k) e w := by
  refine wp_seq (wp_mono (h : cw P n a (kq P n R (.code b :: k)) e w) ?_)
  rintro x a' w' ⟨e', rfl, hh⟩
  cases x with
  | normal => exact (hh : cw P n b (kq P n R k) e' w')
  | _ => exact ⟨e', rfl, hh⟩

theorem k_block {id : Nat} {c : Code} (h : kw P n R (.code c :: .blk id :: k) e w) : kw P n R (.code (.block id c) :: k) e w := by
  refine wp_block (wp_mono (h : cw P n c (kq P n R (.blk id :: k)) e w) ?_)
  rintro x a' w' ⟨e', rfl, hh⟩
  cases x with
  | exit id' =>
    simp only [kq] at hh
    simp only [Exit.inBlock]
    by_cases hid : id' = id
    · simp only [hid, if_true] at hh ⊢; exact ⟨e', rfl, hh⟩
    · simp only [hid, if_false] at hh ⊢; exact ⟨e', rfl, hh⟩
  | _ => exact ⟨e', rfl, hh⟩

theorem k_cond {c : Operand} {x y : Code} {p : Prop} [Decidable p] (hc : ev n e c = .bool (decide p)) (ht : p → kw P n R (.code x :: k) e w) (hf : ¬ p → kw P n R (.code y :: k) e w) :
    kw P n R (.code (.cond c x y) :: k) e w := by
  refine wp_cond_split (t := decide p) (by rw [act_eval]; exact hc) (fun h => ht (of_decide_eq_true h)) (fun h => hf (of_decide_eq_false h))

theorem k_yes {c : Operand} {x y : Code} {p : Prop} [Decidable p] (hc : ev n e c = .bool (decide p)) (hp : p) (ht : kw P n R (.code x :: k) e w) : kw P n R (.code (.cond c x y) :: k) e w :=
  k_cond hc (fun _ => ht) (fun hn => absurd hp hn)
theorem k_no {c : Operand} {x y : Code} {p : Prop} [Decidable p] (hc : ev n e c = .bool (decide p)) (hp : ¬ p) (hf : kw P n R (.code y :: k) e w) : kw P n R (.code (.cond c x y) :: k) e w :=
  k_cond hc (fun h => absurd h hp) (fun _ => hf)

theorem k_condt {c : Operand} {x y : Code} (hc : ev n e c = .bool true) (ht : kw P n R (.code x :: k) e w) : kw P n R (.code (.cond c x y) :: k) e w :=
  wp_cond_true (by rw [act_eval]; exact hc) ht

theorem k_condf {c : Operand} {x y : Code} (hc : ev n e c = .bool false) (hf : kw P n R (.code y :: k) e w) : kw P n R (.code (.cond c x y) :: k) e w :=
  wp_cond_false (by rw [act_eval]; exact hc) hf

theorem k_condb {c : Operand} {x y : Code} {b : Bool} (hc : ev n e c = .bool b) (ht : b = true → kw P n R (.code x :: k) e w) (hf : b = false → kw P n R (.code y :: k) e w) :
    kw P n R (.code (.cond c x y) :: k) e w :=
  wp_cond_split (t := b) (by rw [act_eval]; exact hc) ht hf

/-- where an exit leads -/
def exitK (id : Nat) : List KI → Option (List KI)
  | [] => none
  | .blk id' :: k => bif Nat.beq id id' then some k else exitK id k
  | .code _ :: k => exitK id k
  | .goal _ :: k => exitK id k

theorem kq_exit {id : Nat} : ∀ {k k' : List KI}, exitK id k = some k' → kq P n R k' .normal e w → kq P n R k (.exit id) e w
  | [], _, h, _ => by simp [exitK] at h
  | .blk id' :: k, k', h, hk => by
    simp only [exitK] at h
    simp only [kq]
    cases hb : Nat.beq id id' with
    | true =>
      rw [hb] at h
      simp at h
      subst h
      rw [if_pos (Nat.eq_of_beq_eq_true hb)]
      exact hk
    | false =>
      rw [hb] at h
      rw [if_neg (Nat.ne_of_beq_eq_false hb)]
      exact kq_exit (k := k) (by simpa using h) hk
  | .code _ :: k, k', h, hk => kq_exit (k := k) h hk
  | .goal _ :: k, k', h, hk => kq_exit (k := k) h hk

theorem k_exit {id : Nat} {k' : List KI} (h : exitK id k = some k') (hk : kw P n R k' e w) : kw P n R (.code (.exit id) :: k) e w :=
  wp_exit ⟨e, rfl, kq_exit h hk⟩

theorem kq_ret : ∀ {k : List KI}, R .ret e w → kq P n R k .ret e w
  | [], h => h
  | .blk _ :: k, h => kq_ret (k := k) h
  | .code _ :: k, h => kq_ret (k := k) h
  | .goal _ :: k, h => kq_ret (k := k) h

theorem k_ret (h : R .ret e w) : kw P n R (.code .ret :: k) e w := wp_ret ⟨e, rfl, kq_ret h⟩

/-! ### the environment read as a list -/
def Has : List (Nat × Value) → Env → Prop
  | [], _ => True
  | (t, v) :: l, e => e t = v ∧ Has l e
def ovr : List (Nat × Value) → Env → Env
  | [], e => e
  | (t, v) :: l, e => upd (ovr l e) t v

theorem upd_self {t : Nat} {v : Value} (h : e t = v) : upd e t v = e := by
  funext i
  unfold upd
  cases hb : Nat.beq i t with
  | true => rw [Nat.eq_of_beq_eq_true hb]; exact h.symm
  | false => rfl

theorem ovr_self : ∀ {l : List (Nat × Value)}, Has l e → ovr l e = e
  | [], _ => rfl
  | (t, v) :: l, h => by
    show upd (ovr l e) t v = e
    rw [ovr_self h.2]
    exact upd_self h.1

/-- forget all slots but those of the list -/
theorem k_gen (l : List (Nat × Value)) (h : Has l e) (H : ∀ e, kw P n R k (ovr l e) w) : kw P n R k e w := by
  have := H e
  rwa [ovr_self h] at this

theorem kq_mono_top {x : KI} {G : Env → World → Prop} (hG : ∀ e w, G e w → kw P n R k e w) (h : kw P n R (x :: .goal G :: k) e w) : kw P n R (x :: k) e w := by
  cases x with
  | code c =>
    refine cw_mono (h : cw P n c (kq P n R (.goal G :: k)) e w) fun x e w hh => ?_
    cases x with
    | normal => exact hG _ _ hh
    | _ => exact hh
  | blk id => exact hG _ _ h
  | goal G' => exact h

/-- the ways through the first thing of the stack meet again behind it -/
theorem k_cut {σ : Type} {x : KI} (L : σ → List (Nat × Value)) (J : σ → World → Prop)
    (h1 : kw P n R (x :: .goal (fun e w => ∃ s, Has (L s) e ∧ J s w) :: k) e w) (h2 : ∀ s e w, J s w → kw P n R k (ovr (L s) e) w) : kw P n R (x :: k) e w :=
  kq_mono_top (fun e w ⟨s, hs, hJ⟩ => by have := h2 s e w hJ; rwa [ovr_self hs] at this) h1

/-- a loop: what the slots hold at each round's head is a function of a state -/
theorem k_loop {σ : Type} {c : Code} (L : σ → List (Nat × Value)) (J : σ → World → Prop) (μ : σ → Nat) (s0 : σ) (h0 : Has (L s0) e) (hJ : J s0 w)
    (round : ∀ s e w, J s w → kw P n R (.code c :: .goal (fun e' w' => ∃ s', Has (L s') e' ∧ J s' w' ∧ μ s' < μ s) :: k) (ovr (L s) e) w) :
    kw P n R (.code (.loop c) :: k) e w := by
  have key : (Code.loop c).wp P (fun x a w' => ∃ e', a = act n e' ∧ kq P n R k x e' w') (act n e) w := by
    refine wp_loop_ghost (fun m a w => ∃ s e, a = act n e ∧ Has (L s) e ∧ J s w ∧ μ s = m) (μ s0) ⟨s0, e, rfl, h0, hJ, rfl⟩ ?_
    rintro m a w ⟨s, e, rfl, hL, hJ, rfl⟩
    have h := round s e w hJ
    rw [ovr_self hL] at h
    refine wp_mono (h : cw P n c (kq P n R (.goal _ :: k)) e w) ?_
    rintro x a' w' ⟨e', rfl, hh⟩
    cases x with
    | normal =>
      obtain ⟨s', h1, h2, h3⟩ := hh
      exact ⟨μ s', h3, s', e', rfl, h1, h2, rfl⟩
    | _ => exact ⟨e', rfl, hh⟩
  exact key

/-! ### operations -/
def opW (P : Program) (n : Nat) (o : Oper) (e : Env) (w : World) (K : Value → World → Prop) : Prop :=
  match (execOp (ev n e) o).run P w with
  | .ok (.value v) w' => K v w'
  | .ok .skip w' => K undef w'
  | .ok (.enter f args) w' => Calls P f args w' (fun x w'' => match x with | .returned v => K v w'' | _ => False)
  | _ => False

def ow (P : Program) (n : Nat) (l0 : List Oper) (K : Env → World → Prop) : List Oper → Env → World → Prop
  | [], e, w => K e w
  | o :: l, e, w => if Region.wanted o (yielded l0.toArray (act n e).tmps) then opW P n o e w (fun v w' => ow P n l0 K l (updo e o.dst v) w') else ow P n l0 K l (updo e o.dst undef) w

theorem wpList_of_ow {l0 : List Oper} {K : Env → World → Prop} {Q : Exit → Act → World → Prop} (hQ : ∀ e w, K e w → Q .normal (act n e) w) :
    ∀ (l : List Oper) (e : Env) (w : World), ow P n l0 K l e w → wpList P l0.toArray Q l (act n e) w
  | [], e, w, h => hQ _ _ h
  | o :: l, e, w, h => by
    unfold wpList
    unfold ow at h
    split
    · rename_i hw
      rw [if_pos hw] at h
      refine .inl ?_
      unfold opW at h
      unfold Oper.wp
      rw [act_eval]
      split at h
      · rename_i v w' hr
        rw [hr, Oper.upon_value, act_put]
        exact wpList_of_ow hQ l _ _ h
      · rename_i w' hr
        rw [hr, Oper.upon_skip, act_put]
        exact wpList_of_ow hQ l _ _ h
      · rename_i f args w' hr
        rw [hr, Oper.upon_enter]
        refine Calls.mono h fun x w'' hx => ?_
        cases x with
        | returned v =>
          show wpList P l0.toArray Q l ((act n e).put o.dst v) w''
          rw [act_put]
          exact wpList_of_ow hQ l _ _ hx
        | panicked c => exact hx.elim
        | outgrown => exact hx.elim
      · exact h.elim
    · rename_i hw
      rw [if_neg hw] at h
      rw [act_put]
      exact wpList_of_ow hQ l _ _ h

theorem k_region {id : Nat} {l : List Oper} (h : ow P n l (kw P n R k) l e w) : kw P n R (.code (.region id l.toArray false) :: k) e w :=
  wp_region_lit (wpList_of_ow (fun e w hk => ⟨e, rfl, hk⟩) l e w h)

theorem o_nil {l0 : List Oper} {K : Env → World → Prop} (h : K e w) : ow P n l0 K [] e w := h

section ops
variable {l0 l : List Oper} {K : Env → World → Prop} {d : Option Nat} {op : Op} {T : TypeId} {pos : String} {af : Array Edge}

/-- one operation without a guard, by its run -/
theorem o_run {v : Value} {w' : World} (hr : (execOp (ev n e) ⟨d, op, T, pos, af, none⟩).run P w = .ok (.value v) w') (h : ow P n l0 K l (updo e d v) w') :
    ow P n l0 K (⟨d, op, T, pos, af, none⟩ :: l) e w := by
  unfold ow
  rw [if_pos (by simp [Region.wanted])]
  unfold opW
  rw [hr]
  exact h

theorem o_runs {w' : World} (hr : (execOp (ev n e) ⟨d, op, T, pos, af, none⟩).run P w = .ok .skip w') (h : ow P n l0 K l (updo e d undef) w') :
    ow P n l0 K (⟨d, op, T, pos, af, none⟩ :: l) e w := by
  unfold ow
  rw [if_pos (by simp [Region.wanted])]
  unfold opW
  rw [hr]
  exact h

/-- the slot that an operation writes -/
def slotOf : List Oper → Nat → Option Nat
  | [], _ => none
  | o :: _, 0 => o.dst
  | _ :: l, i + 1 => slotOf l i

theorem slotOf_eq : ∀ (l : List Oper) (j : Nat), (l[j]?).bind (·.dst) = slotOf l j
  | [], _ => by simp [slotOf]
  | o :: _, 0 => by simp [slotOf]
  | _ :: l, i + 1 => by simp [slotOf, slotOf_eq l i]

theorem yielded_act {j t : Nat} {b : Bool} (hs : slotOf l0 j = some t) (hv : ev n e (.tmp t) = .bool b) : yielded l0.toArray (act n e).tmps j = some b := by
  unfold yielded
  rw [List.getElem?_toArray, slotOf_eq, hs]
  simp only [ev] at hv
  cases hb : Nat.blt t n with
  | false => rw [hb] at hv; simp [undef] at hv
  | true =>
    rw [hb] at hv
    simp only [cond_true] at hv
    have ht : t < n := by rw [Nat.blt_eq] at hb; exact hb
    simp [act, ht, hv]

theorem g_yes {j t : Nat} {b : Bool} (hs : slotOf l0 j = some t) (hv : ev n e (.tmp t) = .bool b) (h : ow P n l0 K (⟨d, op, T, pos, af, none⟩ :: l) e w) :
    ow P n l0 K (⟨d, op, T, pos, af, some (j, b)⟩ :: l) e w := by
  unfold ow at h ⊢
  rw [if_pos (by simp [Region.wanted])] at h
  rw [if_pos (by simp [Region.wanted, yielded_act hs hv])]
  exact h

theorem g_no {j t : Nat} {b b' : Bool} (hs : slotOf l0 j = some t) (hv : ev n e (.tmp t) = .bool b') (hb : b' = !b) (h : ow P n l0 K l (updo e d undef) w) :
    ow P n l0 K (⟨d, op, T, pos, af, some (j, b)⟩ :: l) e w := by
  unfold ow
  rw [if_neg (by subst hb; cases b <;> simp [Region.wanted, yielded_act hs hv])]
  exact h

/-- a slot that holds a bool: two ways -/
theorem o_split {t : Nat} {p : Prop} [Decidable p] (h : e t = .bool (decide p)) (ht : p → ow P n l0 K l (upd e t (.bool true)) w) (hf : ¬ p → ow P n l0 K l (upd e t (.bool false)) w) : ow P n l0 K l e w := by
  by_cases hp : p
  · have := ht hp
    rwa [upd_self (by rw [h]; simp [hp])] at this
  · have := hf hp
    rwa [upd_self (by rw [h]; simp [hp])] at this

theorem o_true {t : Nat} {p : Prop} [Decidable p] (h : e t = .bool (decide p)) (hp : p) (ht : ow P n l0 K l (upd e t (.bool true)) w) : ow P n l0 K l e w := by
  rwa [upd_self (by rw [h]; simp [hp])] at ht
theorem o_false {t : Nat} {p : Prop} [Decidable p] (h : e t = .bool (decide p)) (hp : ¬ p) (ht : ow P n l0 K l (upd e t (.bool false)) w) : ow P n l0 K l e w := by
  rwa [upd_self (by rw [h]; simp [hp])] at ht

/-! ### calls -/
/-- the call returns, and what it returns and leaves is as S says -/
def Ret (P : Program) (f : FuncId) (args : List Value) (w : World) (S : Value → World → Prop) : Prop :=
  Calls P f args.toArray w (fun x w' => match x with | .returned v => S v w' | _ => False)

theorem Ret.mono {f : FuncId} {args : List Value} {S S' : Value → World → Prop} (h : Ret P f args w S) (hs : ∀ v w', S v w' → S' v w') : Ret P f args w S' :=
  Calls.mono h fun x w' hx => by cases x <;> first | exact hs _ _ hx | exact hx

theorem Ret.calls {f : FuncId} {args : List Value} {S : Value → World → Prop} (h : Ret P f args w S) : Calls P f args.toArray w (fun x w' => ∃ v, x = .returned v ∧ S v w') :=
  Calls.mono h fun x w' hx => by cases x <;> first | exact ⟨_, rfl, hx⟩ | exact hx.elim

def callOk (P : Program) (f : FuncId) : Bool :=
  match P.funcs[f]? with
  | some fn => !(fn.name == "runtime.NumGoroutine") && fn.body.isSome
  | none => false

def evs (n : Nat) (e : Env) : List Operand → List Value
  | [] => []
  | x :: l => ev n e x :: evs n e l
theorem evs_eq (n : Nat) (e : Env) : ∀ l : List Operand, l.map (ev n e) = evs n e l
  | [] => rfl
  | x :: l => by simp [evs, evs_eq n e l]

theorem run_call {f : FuncId} {args : List Operand} {ts : Array TypeId} (hf : callOk P f = true) :
    (execOp (ev n e) ⟨d, .call ⟨.value (.func f), args.toArray, ts⟩, T, pos, af, none⟩).run P w = .ok (.enter f (evs n e args).toArray) w := by
  unfold callOk at hf
  split at hf
  · rename_i fn hfn
    simp only [Bool.and_eq_true, Bool.not_eq_true'] at hf
    have hb : ¬ fn.body = none := by cases h : fn.body <;> simp_all
    have hn : ¬ fn.name = "runtime.NumGoroutine" := by simpa using hf.1
    simp [execOp, resolve, Deferred.ofValue, invoke, callFunc, ev, hfn, hn, hb, ← evs_eq]
  · cases hf

theorem o_call {f : FuncId} {args : List Operand} {vs : List Value} {ts : Array TypeId} {S : Value → World → Prop} (hf : callOk P f = true) (hv : evs n e args = vs) (hc : Ret P f vs w S)
    (h : ∀ v w', S v w' → ow P n l0 K l (updo e d v) w') : ow P n l0 K (⟨d, .call ⟨.value (.func f), args.toArray, ts⟩, T, pos, af, none⟩ :: l) e w := by
  unfold ow
  rw [if_pos (by simp [Region.wanted])]
  unfold opW
  rw [run_call hf, hv]
  exact Calls.mono hc fun x w' hx => by
    cases x with
    | returned v => exact h _ _ hx
    | _ => exact hx
end ops

/-! ### a function -/
def resV (n : Nat) (e : Env) : List Nat → Value
  | [t] => ev n e (.tmp t)
  | ts => .tuple (ts.map fun t => ev n e (.tmp t)).toArray

def retR (P : Program) (F : Func) (n : Nat) (S : Value → World → Prop) : Exit → Env → World → Prop
  | .normal, e, w | .ret, e, w => ∃ v, (results F (act n e).tmps).run P w = .ok v w ∧ S v w
  | _, _, _ => False

theorem run_results {F : Func} {ts : List Nat} (hr : F.results = (ts.map ResultVar.tmp).toArray) : (results F (act n e).tmps).run P w = .ok (resV n e ts) w := by
  have hg : ∀ t, (act n e).tmps.getD t undef = ev n e (.tmp t) := fun t => by rw [← act_eval]; rfl
  have hm : ∀ (ts : List Nat) (acc : Array Value), ((ts.map ResultVar.tmp).foldlM (fun (bs : Array Value) a => (fun b => bs.push b) <$> (match a with
      | .tmp t => pure ((act n e).tmps.getD t undef)
      | .cell a t => do loadVar t (← asAddr ((act n e).tmps.getD a undef)) : Sem Value)) acc).run P w = .ok (acc ++ (ts.map fun t => ev n e (.tmp t)).toArray) w := by
    intro ts
    induction ts with
    | nil => intro acc; simp
    | cons t ts ih =>
      intro acc
      rw [List.map_cons, List.foldlM_cons, Sem.run_bind, Sem.run_map, Sem.run_pure, Result.andThen_ok, Result.andThen_ok, ih, hg]
      simp
  have hall : (F.results.mapM (fun
      | .tmp t => pure ((act n e).tmps.getD t undef)
      | .cell a t => do loadVar t (← asAddr ((act n e).tmps.getD a undef)) : ResultVar → Sem Value)).run P w = .ok (ts.map fun t => ev n e (.tmp t)).toArray w := by
    rw [hr, Array.mapM_eq_foldlM, ← Array.foldlM_toList]
    have := hm ts #[]
    simpa using this
  have hres : (results F (act n e).tmps).run P w = ((F.results.mapM (fun
      | .tmp t => pure ((act n e).tmps.getD t undef)
      | .cell a t => do loadVar t (← asAddr ((act n e).tmps.getD a undef)) : ResultVar → Sem Value)).run P w).andThen
        (fun vs w' => (pure (if h : vs.size = 1 then vs[0] else .tuple vs) : Sem Value).run P w') := Sem.run_bind P w _ _
  rw [hres, hall, Result.andThen_ok, Sem.run_pure]
  match ts with
  | [] => simp [resV]
  | [t] => simp [resV]
  | t :: u :: r => simp [resV]

theorem ret_tmps {F : Func} {S : Value → World → Prop} {ts : List Nat} {v : Value} (hr : F.results = (ts.map ResultVar.tmp).toArray) (hv : resV n e ts = v) (h : S v w) : retR P F n S .ret e w :=
  ⟨_, run_results hr, hv ▸ h⟩
theorem end_tmps {F : Func} {S : Value → World → Prop} {ts : List Nat} {v : Value} (hr : F.results = (ts.map ResultVar.tmp).toArray) (hv : resV n e ts = v) (h : S v w) : retR P F n S .normal e w :=
  ⟨_, run_results hr, hv ▸ h⟩

def argsL : Nat → List Value → List (Nat × Value)
  | _, [] => []
  | i, v :: l => (i, v) :: argsL (i + 1) l

theorem ovr_args (e : Env) : ∀ (l : List Value) (i t : Nat), ovr (argsL i l) e t = if i ≤ t ∧ t < i + l.length then l.getD (t - i) undef else e t
  | [], i, t => by
    rw [if_neg (by simp)]
    rfl
  | v :: l, i, t => by
    simp only [argsL, ovr, upd]
    cases hb : Nat.beq t i with
    | true =>
      have := Nat.eq_of_beq_eq_true hb
      subst this
      simp
    | false =>
      have hne := Nat.ne_of_beq_eq_false hb
      rw [cond_false, ovr_args e l (i + 1) t]
      by_cases hc : i ≤ t ∧ t < i + (v :: l).length
      · rw [if_pos hc, if_pos (by simp at hc ⊢; omega)]
        obtain ⟨m, hm⟩ : ∃ m, t - i = m + 1 := ⟨t - i - 1, by omega⟩
        rw [hm, show t - (i + 1) = m by omega]
        simp
      · rw [if_neg hc, if_neg (by simp at hc ⊢; omega)]

theorem fn_enter {f : FuncId} {F : Func} {c : Code} {args : List Value} {S : Value → World → Prop} (hf : P.funcs[f]? = some F) (hb : F.body = some c) (hn : F.ntmps = n) (hl : args.length ≤ n)
    (h : ∀ e, kw P n (retR P F n S) [.code c] (ovr (argsL 0 args) e) w) : Ret P f args w S := by
  subst hn
  refine calls_of_wp hf hb ?_
  have ha : ({ tmps := args.toArray ++ Array.replicate (F.ntmps - args.toArray.size) undef, defers := [] } : Act) = act F.ntmps (ovr (argsL 0 args) (fun _ => undef)) := by
    unfold act
    congr 1
    apply Array.ext
    · simp; omega
    · intro i h1 h2
      simp only [Array.getElem_ofFn, ovr_args, Array.getElem_append, List.size_toArray, List.getElem_toArray, Array.getElem_replicate]
      by_cases hi : i < args.length
      · simp [hi]
      · simp [hi]
  rw [ha]
  refine wp_mono (h (fun _ => undef) : cw P F.ntmps c (kq P F.ntmps (retR P F F.ntmps S) []) _ w) ?_
  rintro x a w' ⟨e', rfl, hh⟩
  cases x with
  | normal => exact ⟨rfl, hh⟩
  | ret => exact ⟨rfl, hh⟩
  | _ => exact hh.elim

end E
end Go.Proofs.YtiapgmfooclpcaaDoor

/- The rules of the operations: one for each kind of operation and shape of operands, over the engine. No condition. -/
namespace Go.Proofs.YtiapgmfooclpcaaDoor
open Go.RowKit
set_option linter.unusedVariables false
set_option linter.unusedSimpArgs false
namespace E

theorem wrap_in {k : IntKind} {m : Int} (h : k.min ≤ m ∧ m ≤ k.max) : k.wrap m = m := by
  cases k <;> simp only [IntKind.min, IntKind.max, IntKind.signed, IntKind.bits] at h <;> simp only [IntKind.wrap, IntKind.signed, IntKind.bits] <;> simp at h ⊢ <;> (try split) <;> omega

theorem wrap_nat_u {k : IntKind} (hk : k.signed = false) (m : Int) : k.wrap m = ((BitVec.ofInt k.bits m).toNat : Int) := by
  cases k <;> simp [IntKind.signed] at hk <;> simp [IntKind.wrap, IntKind.signed, IntKind.bits, BitVec.toNat_ofInt] <;> omega

def mv : Op → Option Operand
  | .move x => some x
  | .assign x => some x
  | _ => none

variable {P : Program} {n : Nat} {e : Env} {w : World} {l0 l : List Oper} {K : Env → World → Prop} {d : Nat} {T : TypeId} {pos : String} {af : Array Edge} {op : Op} {x y : Operand} {TX TY : TypeId}

theorem m_any {v : Value} (ho : mv op = some x) (hx : ev n e x = v) (h : ow P n l0 K l (upd e d v) w) : ow P n l0 K (⟨some d, op, T, pos, af, none⟩ :: l) e w := by
  refine o_run (v := v) (w' := w) ?_ h
  cases op <;> simp [mv] at ho <;> subst ho <;> simp [execOp, hx]
theorem m_int {k : IntKind} {a : Int} (ho : mv op = some x) (hx : ev n e x = .int k a) (h : ow P n l0 K l (upd e d (.int k a)) w) : ow P n l0 K (⟨some d, op, T, pos, af, none⟩ :: l) e w := m_any ho hx h
theorem m_bool {a : Bool} (ho : mv op = some x) (hx : ev n e x = .bool a) (h : ow P n l0 K l (upd e d (.bool a)) w) : ow P n l0 K (⟨some d, op, T, pos, af, none⟩ :: l) e w := m_any ho hx h
theorem m_ptr {a : Option Addr} (ho : mv op = some x) (hx : ev n e x = .pointer a) (h : ow P n l0 K l (upd e d (.pointer a)) w) : ow P n l0 K (⟨some d, op, T, pos, af, none⟩ :: l) e w := m_any ho hx h
theorem m_sl {a : Option Addr} {i c : Nat} (ho : mv op = some x) (hx : ev n e x = .slice a i c) (h : ow P n l0 K l (upd e d (.slice a i c)) w) : ow P n l0 K (⟨some d, op, T, pos, af, none⟩ :: l) e w := m_any ho hx h
theorem m_str {a : ByteArray} (ho : mv op = some x) (hx : ev n e x = .string a) (h : ow P n l0 K l (upd e d (.string a)) w) : ow P n l0 K (⟨some d, op, T, pos, af, none⟩ :: l) e w := m_any ho hx h
theorem m_agg {a : Array Value} (ho : mv op = some x) (hx : ev n e x = .agg a) (h : ow P n l0 K l (upd e d (.agg a)) w) : ow P n l0 K (⟨some d, op, T, pos, af, none⟩ :: l) e w := m_any ho hx h
theorem m_map {a : Option Nat} (ho : mv op = some x) (hx : ev n e x = .map a) (h : ow P n l0 K l (upd e d (.map a)) w) : ow P n l0 K (⟨some d, op, T, pos, af, none⟩ :: l) e w := m_any ho hx h

theorem pick_b {b : Bool} {c : Operand} {v : Value} (hc : ev n e c = .bool b) (hv : (bif b then ev n e x else ev n e y) = v) (h : ow P n l0 K l (upd e d v) w) :
    ow P n l0 K (⟨some d, .pick c x y, T, pos, af, none⟩ :: l) e w := by
  refine o_run (v := v) (w' := w) ?_ h
  subst hv
  cases b <;> simp [execOp, hc, asBool]
theorem pick_t {c : Operand} {b : Bool} (hc : ev n e c = .bool true) (hv : ev n e x = .bool b) (h : ow P n l0 K l (upd e d (.bool b)) w) :
    ow P n l0 K (⟨some d, .pick c x y, T, pos, af, none⟩ :: l) e w := pick_b hc hv h
theorem pick_f {c : Operand} {b : Bool} (hc : ev n e c = .bool false) (hv : ev n e y = .bool b) (h : ow P n l0 K l (upd e d (.bool b)) w) :
    ow P n l0 K (⟨some d, .pick c x y, T, pos, af, none⟩ :: l) e w := pick_b hc hv h

theorem b_add {k : IntKind} {a b : Int} (hx : ev n e x = .int k a) (hy : ev n e y = .int k b)  (h : ow P n l0 K l (upd e d (.int k (k.wrap (a + b)))) w) :
    ow P n l0 K (⟨some d, .binOp .add TX x y TY, T, pos, af, none⟩ :: l) e w := by
  refine o_run (v := .int k (k.wrap (a + b))) (w' := w) ?_ h
  cases k <;> simp [execOp, eqGuard, hx, hy, binOp, Op.intArith, Op.intDiv, Op.intBits, Op.intCmp]

theorem b_sub {k : IntKind} {a b : Int} (hx : ev n e x = .int k a) (hy : ev n e y = .int k b)  (h : ow P n l0 K l (upd e d (.int k (k.wrap (a - b)))) w) :
    ow P n l0 K (⟨some d, .binOp .sub TX x y TY, T, pos, af, none⟩ :: l) e w := by
  refine o_run (v := .int k (k.wrap (a - b))) (w' := w) ?_ h
  cases k <;> simp [execOp, eqGuard, hx, hy, binOp, Op.intArith, Op.intDiv, Op.intBits, Op.intCmp]

theorem b_mul {k : IntKind} {a b : Int} (hx : ev n e x = .int k a) (hy : ev n e y = .int k b)  (h : ow P n l0 K l (upd e d (.int k (k.wrap (a * b)))) w) :
    ow P n l0 K (⟨some d, .binOp .mul TX x y TY, T, pos, af, none⟩ :: l) e w := by
  refine o_run (v := .int k (k.wrap (a * b))) (w' := w) ?_ h
  cases k <;> simp [execOp, eqGuard, hx, hy, binOp, Op.intArith, Op.intDiv, Op.intBits, Op.intCmp]

theorem b_quo {k : IntKind} {a b : Int} (hx : ev n e x = .int k a) (hy : ev n e y = .int k b) (hb : ¬ b = 0) (h : ow P n l0 K l (upd e d (.int k (k.wrap (a.tdiv b)))) w) :
    ow P n l0 K (⟨some d, .binOp .quo TX x y TY, T, pos, af, none⟩ :: l) e w := by
  refine o_run (v := .int k (k.wrap (a.tdiv b))) (w' := w) ?_ h
  cases k <;> simp [execOp, eqGuard, hx, hy, binOp, Op.intArith, Op.intDiv, Op.intBits, Op.intCmp, hb]

theorem b_rem {k : IntKind} {a b : Int} (hx : ev n e x = .int k a) (hy : ev n e y = .int k b) (hb : ¬ b = 0) (h : ow P n l0 K l (upd e d (.int k (a.tmod b))) w) :
    ow P n l0 K (⟨some d, .binOp .rem TX x y TY, T, pos, af, none⟩ :: l) e w := by
  refine o_run (v := .int k (a.tmod b)) (w' := w) ?_ h
  cases k <;> simp [execOp, eqGuard, hx, hy, binOp, Op.intArith, Op.intDiv, Op.intBits, Op.intCmp, hb]

theorem b_and {k : IntKind} {a b : Int} (hx : ev n e x = .int k a) (hy : ev n e y = .int k b)  (h : ow P n l0 K l (upd e d (.int k (k.wrap (BitVec.ofInt k.bits a &&& BitVec.ofInt k.bits b).toNat))) w) :
    ow P n l0 K (⟨some d, .binOp .and TX x y TY, T, pos, af, none⟩ :: l) e w := by
  refine o_run (v := .int k (k.wrap (BitVec.ofInt k.bits a &&& BitVec.ofInt k.bits b).toNat)) (w' := w) ?_ h
  cases k <;> simp [execOp, eqGuard, hx, hy, binOp, Op.intArith, Op.intDiv, Op.intBits, Op.intCmp]

theorem b_or {k : IntKind} {a b : Int} (hx : ev n e x = .int k a) (hy : ev n e y = .int k b)  (h : ow P n l0 K l (upd e d (.int k (k.wrap (BitVec.ofInt k.bits a ||| BitVec.ofInt k.bits b).toNat))) w) :
    ow P n l0 K (⟨some d, .binOp .or TX x y TY, T, pos, af, none⟩ :: l) e w := by
  refine o_run (v := .int k (k.wrap (BitVec.ofInt k.bits a ||| BitVec.ofInt k.bits b).toNat)) (w' := w) ?_ h
  cases k <;> simp [execOp, eqGuard, hx, hy, binOp, Op.intArith, Op.intDiv, Op.intBits, Op.intCmp]

theorem b_xor {k : IntKind} {a b : Int} (hx : ev n e x = .int k a) (hy : ev n e y = .int k b)  (h : ow P n l0 K l (upd e d (.int k (k.wrap (BitVec.ofInt k.bits a ^^^ BitVec.ofInt k.bits b).toNat))) w) :
    ow P n l0 K (⟨some d, .binOp .xor TX x y TY, T, pos, af, none⟩ :: l) e w := by
  refine o_run (v := .int k (k.wrap (BitVec.ofInt k.bits a ^^^ BitVec.ofInt k.bits b).toNat)) (w' := w) ?_ h
  cases k <;> simp [execOp, eqGuard, hx, hy, binOp, Op.intArith, Op.intDiv, Op.intBits, Op.intCmp]

theorem b_andNot {k : IntKind} {a b : Int} (hx : ev n e x = .int k a) (hy : ev n e y = .int k b)  (h : ow P n l0 K l (upd e d (.int k (k.wrap (BitVec.ofInt k.bits a &&& ~~~ BitVec.ofInt k.bits b).toNat))) w) :
    ow P n l0 K (⟨some d, .binOp .andNot TX x y TY, T, pos, af, none⟩ :: l) e w := by
  refine o_run (v := .int k (k.wrap (BitVec.ofInt k.bits a &&& ~~~ BitVec.ofInt k.bits b).toNat)) (w' := w) ?_ h
  cases k <;> simp [execOp, eqGuard, hx, hy, binOp, Op.intArith, Op.intDiv, Op.intBits, Op.intCmp]

theorem b_lss {k : IntKind} {a b : Int} (hx : ev n e x = .int k a) (hy : ev n e y = .int k b)  (h : ow P n l0 K l (upd e d (.bool (decide (a < b)))) w) :
    ow P n l0 K (⟨some d, .binOp .lss TX x y TY, T, pos, af, none⟩ :: l) e w := by
  refine o_run (v := .bool (decide (a < b))) (w' := w) ?_ h
  cases k <;> simp [execOp, eqGuard, hx, hy, binOp, Op.intArith, Op.intDiv, Op.intBits, Op.intCmp]

theorem b_leq {k : IntKind} {a b : Int} (hx : ev n e x = .int k a) (hy : ev n e y = .int k b)  (h : ow P n l0 K l (upd e d (.bool (decide (a ≤ b)))) w) :
    ow P n l0 K (⟨some d, .binOp .leq TX x y TY, T, pos, af, none⟩ :: l) e w := by
  refine o_run (v := .bool (decide (a ≤ b))) (w' := w) ?_ h
  cases k <;> simp [execOp, eqGuard, hx, hy, binOp, Op.intArith, Op.intDiv, Op.intBits, Op.intCmp]

theorem b_gtr {k : IntKind} {a b : Int} (hx : ev n e x = .int k a) (hy : ev n e y = .int k b)  (h : ow P n l0 K l (upd e d (.bool (decide (b < a)))) w) :
    ow P n l0 K (⟨some d, .binOp .gtr TX x y TY, T, pos, af, none⟩ :: l) e w := by
  refine o_run (v := .bool (decide (b < a))) (w' := w) ?_ h
  cases k <;> simp [execOp, eqGuard, hx, hy, binOp, Op.intArith, Op.intDiv, Op.intBits, Op.intCmp]

theorem b_geq {k : IntKind} {a b : Int} (hx : ev n e x = .int k a) (hy : ev n e y = .int k b)  (h : ow P n l0 K l (upd e d (.bool (decide (b ≤ a)))) w) :
    ow P n l0 K (⟨some d, .binOp .geq TX x y TY, T, pos, af, none⟩ :: l) e w := by
  refine o_run (v := .bool (decide (b ≤ a))) (w' := w) ?_ h
  cases k <;> simp [execOp, eqGuard, hx, hy, binOp, Op.intArith, Op.intDiv, Op.intBits, Op.intCmp]

theorem b_eql {k : IntKind} {a b : Int} (hx : ev n e x = .int k a) (hy : ev n e y = .int k b) (h : ow P n l0 K l (upd e d (.bool (decide (a = b)))) w) :
    ow P n l0 K (⟨some d, .binOp .eql TX x y TY, T, pos, af, none⟩ :: l) e w := by
  refine o_run (v := .bool (decide (a = b))) (w' := w) ?_ h
  have : (a == b) = decide (a = b) := by by_cases hh : a = b <;> simp [hh]
  cases k <;> simp [execOp, eqGuard, hx, hy, binOp, Op.intCmp, this]
theorem b_neq {k : IntKind} {a b : Int} (hx : ev n e x = .int k a) (hy : ev n e y = .int k b) (h : ow P n l0 K l (upd e d (.bool (decide (a ≠ b)))) w) :
    ow P n l0 K (⟨some d, .binOp .neq TX x y TY, T, pos, af, none⟩ :: l) e w := by
  refine o_run (v := .bool (decide (a ≠ b))) (w' := w) ?_ h
  have : (a != b) = decide (a ≠ b) := by by_cases hh : a = b <;> simp [hh]
  cases k <;> simp [execOp, eqGuard, hx, hy, binOp, Op.intCmp, this]
theorem b_shl {k k' : IntKind} {a b : Int} (hx : ev n e x = .int k a) (hy : ev n e y = .int k' b) (hb : 0 ≤ b) (h : ow P n l0 K l (upd e d (.int k (k.wrap (a * 2 ^ min b.toNat k.bits)))) w) :
    ow P n l0 K (⟨some d, .binOp .shl TX x y TY, T, pos, af, none⟩ :: l) e w := by
  refine o_run (v := .int k (k.wrap (a * 2 ^ min b.toNat k.bits))) (w' := w) ?_ h
  simp [execOp, eqGuard, hx, hy, binOp, Op.shift, Int.not_lt.2 hb]
theorem b_shr {k k' : IntKind} {a b : Int} (hx : ev n e x = .int k a) (hy : ev n e y = .int k' b) (hb : 0 ≤ b) (h : ow P n l0 K l (upd e d (.int k (a.fdiv (2 ^ min b.toNat k.bits)))) w) :
    ow P n l0 K (⟨some d, .binOp .shr TX x y TY, T, pos, af, none⟩ :: l) e w := by
  refine o_run (v := .int k (a.fdiv (2 ^ min b.toNat k.bits))) (w' := w) ?_ h
  simp [execOp, eqGuard, hx, hy, binOp, Op.shift, Int.not_lt.2 hb]
theorem eq_bool (d : Nat) {TX : TypeId} (hu : P.underlying TX = some .bool) (a b : Bool) : (Op.equalIn (d + 1) TX (.bool a) (.bool b)).run P w = .ok (a == b) w := by
  simp [Op.equalIn, run_underlying hu]
theorem eq_nil (d : Nat) {TX E : TypeId} (hu : P.underlying TX = some (.pointer E)) (a : Option Addr) : (Op.equalIn (d + 1) TX (.pointer a) (.pointer none)).run P w = .ok (a.isNone) w := by
  cases a <;> simp [Op.equalIn, run_underlying hu]
theorem eq_snil (d : Nat) {TX E : TypeId} (hu : P.underlying TX = some (.slice E)) (a : Option Addr) (i c i' c' : Nat) : (Op.equalIn (d + 1) TX (.slice a i c) (.slice none i' c')).run P w = .ok (a.isNone) w := by
  cases a <;> simp [Op.equalIn, run_underlying hu]
theorem eqv {TX : TypeId} {v u : Value} {b : Bool} (h : ∀ d, (Op.equalIn (d + 1) TX v u).run P w = .ok b w) : (Op.equal TX v u).run P w = .ok b w := h 9999
theorem b_eqlb {a b : Bool} (hu : P.underlying TX = some .bool) (hx : ev n e x = .bool a) (hy : ev n e y = .bool b) (h : ow P n l0 K l (upd e d (.bool (decide (a = b)))) w) :
    ow P n l0 K (⟨some d, .binOp .eql TX x y TY, T, pos, af, none⟩ :: l) e w := by
  refine o_run (v := .bool (decide (a = b))) (w' := w) ?_ h
  have hr := eqv (P := P) (w := w) (fun d => eq_bool d hu a b)
  have hb : (a == b) = decide (a = b) := by cases a <;> cases b <;> rfl
  simp only [execOp, hx, hy, binOp, eqGuard, Sem.run_bind, hr, Result.andThen_ok, Sem.run_pure]
  simp [hb, hr, binOp]
theorem b_neqb {a b : Bool} (hu : P.underlying TX = some .bool) (hx : ev n e x = .bool a) (hy : ev n e y = .bool b) (h : ow P n l0 K l (upd e d (.bool (decide (a ≠ b)))) w) :
    ow P n l0 K (⟨some d, .binOp .neq TX x y TY, T, pos, af, none⟩ :: l) e w := by
  refine o_run (v := .bool (decide (a ≠ b))) (w' := w) ?_ h
  have hr := eqv (P := P) (w := w) (fun d => eq_bool d hu a b)
  have hb : (!(a == b)) = decide (a ≠ b) := by cases a <;> cases b <;> rfl
  simp only [execOp, hx, hy, binOp, eqGuard, Sem.run_bind, hr, Result.andThen_ok, Sem.run_pure]
  simp [hb, hr, binOp]
theorem b_eqlp {a : Option Addr} {E : TypeId} (hu : P.underlying TX = some (.pointer E)) (hx : ev n e x = .pointer a) (hy : ev n e y = .pointer none) (h : ow P n l0 K l (upd e d (.bool (decide (a = none)))) w) :
    ow P n l0 K (⟨some d, .binOp .eql TX x y TY, T, pos, af, none⟩ :: l) e w := by
  refine o_run (v := .bool (decide (a = none))) (w' := w) ?_ h
  have hr := eqv (P := P) (w := w) (fun d => eq_nil d hu a)
  have hb : a.isNone = decide (a = none) := by cases a <;> rfl
  simp only [execOp, hx, hy, binOp, eqGuard, Sem.run_bind, hr, Result.andThen_ok, Sem.run_pure]
  simp [hb, hr, binOp]
theorem b_neqp {a : Option Addr} {E : TypeId} (hu : P.underlying TX = some (.pointer E)) (hx : ev n e x = .pointer a) (hy : ev n e y = .pointer none) (h : ow P n l0 K l (upd e d (.bool (decide (a ≠ none)))) w) :
    ow P n l0 K (⟨some d, .binOp .neq TX x y TY, T, pos, af, none⟩ :: l) e w := by
  refine o_run (v := .bool (decide (a ≠ none))) (w' := w) ?_ h
  have hr := eqv (P := P) (w := w) (fun d => eq_nil d hu a)
  have hb : (!a.isNone) = decide (a ≠ none) := by cases a <;> rfl
  simp only [execOp, hx, hy, binOp, eqGuard, Sem.run_bind, hr, Result.andThen_ok, Sem.run_pure]
  simp [hb, hr, binOp]
theorem b_eqls {a : Option Addr} {i c i' c' : Nat} {E : TypeId} (hu : P.underlying TX = some (.slice E)) (hx : ev n e x = .slice a i c) (hy : ev n e y = .slice none i' c') (h : ow P n l0 K l (upd e d (.bool (decide (a = none)))) w) :
    ow P n l0 K (⟨some d, .binOp .eql TX x y TY, T, pos, af, none⟩ :: l) e w := by
  refine o_run (v := .bool (decide (a = none))) (w' := w) ?_ h
  have hr := eqv (P := P) (w := w) (fun d => eq_snil d hu a i c i' c')
  have hb : a.isNone = decide (a = none) := by cases a <;> rfl
  simp only [execOp, hx, hy, binOp, eqGuard, Sem.run_bind, hr, Result.andThen_ok, Sem.run_pure]
  simp [hb, hr, binOp]
theorem b_neqs {a : Option Addr} {i c i' c' : Nat} {E : TypeId} (hu : P.underlying TX = some (.slice E)) (hx : ev n e x = .slice a i c) (hy : ev n e y = .slice none i' c') (h : ow P n l0 K l (upd e d (.bool (decide (a ≠ none)))) w) :
    ow P n l0 K (⟨some d, .binOp .neq TX x y TY, T, pos, af, none⟩ :: l) e w := by
  refine o_run (v := .bool (decide (a ≠ none))) (w' := w) ?_ h
  have hr := eqv (P := P) (w := w) (fun d => eq_snil d hu a i c i' c')
  have hb : (!a.isNone) = decide (a ≠ none) := by cases a <;> rfl
  simp only [execOp, hx, hy, binOp, eqGuard, Sem.run_bind, hr, Result.andThen_ok, Sem.run_pure]
  simp [hb, hr, binOp]
theorem n_add {a b : Int} (hx : ev n e x = .int .i64 a) (hy : ev n e y = .int .i64 b) (hr : -9223372036854775808 ≤ a + b ∧ a + b ≤ 9223372036854775807) (h : ow P n l0 K l (upd e d (.int .i64 (a + b))) w) :
    ow P n l0 K (⟨some d, .binOp .add TX x y TY, T, pos, af, none⟩ :: l) e w :=
  b_add hx hy (by rw [IntWalk.i64_in _ hr]; exact h)

theorem n_sub {a b : Int} (hx : ev n e x = .int .i64 a) (hy : ev n e y = .int .i64 b) (hr : -9223372036854775808 ≤ a - b ∧ a - b ≤ 9223372036854775807) (h : ow P n l0 K l (upd e d (.int .i64 (a - b))) w) :
    ow P n l0 K (⟨some d, .binOp .sub TX x y TY, T, pos, af, none⟩ :: l) e w :=
  b_sub hx hy (by rw [IntWalk.i64_in _ hr]; exact h)

theorem n_mul {a b : Int} (hx : ev n e x = .int .i64 a) (hy : ev n e y = .int .i64 b) (hr : -9223372036854775808 ≤ a * b ∧ a * b ≤ 9223372036854775807) (h : ow P n l0 K l (upd e d (.int .i64 (a * b))) w) :
    ow P n l0 K (⟨some d, .binOp .mul TX x y TY, T, pos, af, none⟩ :: l) e w :=
  b_mul hx hy (by rw [IntWalk.i64_in _ hr]; exact h)

theorem u_not {p : Prop} [Decidable p] (hx : ev n e x = .bool (decide p)) (h : ow P n l0 K l (upd e d (.bool (decide (¬ p)))) w) :
    ow P n l0 K (⟨some d, .unOp .not TX x, T, pos, af, none⟩ :: l) e w := by
  refine o_run (v := .bool (decide (¬ p))) (w' := w) ?_ h
  simp [execOp, hx, Op.unary]
theorem u_notb {b : Bool} (hx : ev n e x = .bool b) (h : ow P n l0 K l (upd e d (.bool (!b))) w) :
    ow P n l0 K (⟨some d, .unOp .not TX x, T, pos, af, none⟩ :: l) e w := by
  refine o_run (v := .bool (!b)) (w' := w) ?_ h
  simp [execOp, hx, Op.unary]
theorem u_neg {k : IntKind} {a : Int} (hx : ev n e x = .int k a) (h : ow P n l0 K l (upd e d (.int k (k.wrap (0 - a)))) w) :
    ow P n l0 K (⟨some d, .unOp .neg TX x, T, pos, af, none⟩ :: l) e w := by
  refine o_run (v := .int k (k.wrap (0 - a))) (w' := w) ?_ h
  simp [execOp, hx, Op.unary, Op.intArith]
theorem u_xor {k : IntKind} {a : Int} (hx : ev n e x = .int k a) (h : ow P n l0 K l (upd e d (.int k (k.wrap (BitVec.ofInt k.bits (if k.signed then -1 else k.max) ^^^ BitVec.ofInt k.bits a).toNat))) w) :
    ow P n l0 K (⟨some d, .unOp .xor TX x, T, pos, af, none⟩ :: l) e w := by
  refine o_run (v := .int k (k.wrap (BitVec.ofInt k.bits (if k.signed then -1 else k.max) ^^^ BitVec.ofInt k.bits a).toNat)) (w' := w) ?_ h
  simp [execOp, hx, Op.unary, Op.intBits]
/-- a conversion between integer kinds -/
theorem c_int {k k' : IntKind} {a : Int} {S D : TypeId} (hs : (P.underlying S).isSome = true) (hd : P.underlying D = some (.int k)) (hx : ev n e x = .int k' a) (h : ow P n l0 K l (upd e d (.int k (k.wrap a))) w) :
    ow P n l0 K (⟨some d, .convert S D x, T, pos, af, none⟩ :: l) e w := by
  refine o_run (v := .int k (k.wrap a)) (w' := w) ?_ h
  obtain ⟨ds, hds⟩ := Option.isSome_iff_exists.1 hs
  simp [execOp, hx, convert, run_underlying hds, run_underlying hd, Conv.intToInt]
theorem c_in {k k' : IntKind} {a : Int} {S D : TypeId} (hs : (P.underlying S).isSome = true) (hd : P.underlying D = some (.int k)) (hx : ev n e x = .int k' a) (hr : k.min ≤ a ∧ a ≤ k.max) (h : ow P n l0 K l (upd e d (.int k a)) w) :
    ow P n l0 K (⟨some d, .convert S D x, T, pos, af, none⟩ :: l) e w :=
  c_int hs hd hx (by rw [wrap_in hr]; exact h)

theorem v8_and {a b : BitVec 8} (hx : ev n e x = .int .u8 (a.toNat : Int)) (hy : ev n e y = .int .u8 (b.toNat : Int)) (h : ow P n l0 K l (upd e d (.int .u8 ((a &&& b).toNat : Int))) w) :
    ow P n l0 K (⟨some d, .binOp .and TX x y TY, T, pos, af, none⟩ :: l) e w :=
  b_and hx hy (by rw [wrap_nat_u rfl]; simp only [IntKind.bits, BitVec.ofInt_natCast, BitVec.ofNat_toNat, BitVec.setWidth_eq]; exact h)

theorem v8_or {a b : BitVec 8} (hx : ev n e x = .int .u8 (a.toNat : Int)) (hy : ev n e y = .int .u8 (b.toNat : Int)) (h : ow P n l0 K l (upd e d (.int .u8 ((a ||| b).toNat : Int))) w) :
    ow P n l0 K (⟨some d, .binOp .or TX x y TY, T, pos, af, none⟩ :: l) e w :=
  b_or hx hy (by rw [wrap_nat_u rfl]; simp only [IntKind.bits, BitVec.ofInt_natCast, BitVec.ofNat_toNat, BitVec.setWidth_eq]; exact h)

theorem v8_xor {a b : BitVec 8} (hx : ev n e x = .int .u8 (a.toNat : Int)) (hy : ev n e y = .int .u8 (b.toNat : Int)) (h : ow P n l0 K l (upd e d (.int .u8 ((a ^^^ b).toNat : Int))) w) :
    ow P n l0 K (⟨some d, .binOp .xor TX x y TY, T, pos, af, none⟩ :: l) e w :=
  b_xor hx hy (by rw [wrap_nat_u rfl]; simp only [IntKind.bits, BitVec.ofInt_natCast, BitVec.ofNat_toNat, BitVec.setWidth_eq]; exact h)

theorem v8_add {a b : BitVec 8} (hx : ev n e x = .int .u8 (a.toNat : Int)) (hy : ev n e y = .int .u8 (b.toNat : Int)) (h : ow P n l0 K l (upd e d (.int .u8 ((a + b).toNat : Int))) w) :
    ow P n l0 K (⟨some d, .binOp .add TX x y TY, T, pos, af, none⟩ :: l) e w :=
  b_add hx hy (by
    rw [wrap_nat_u rfl]
    have hh : BitVec.ofInt 8 ((a.toNat : Int) + (b.toNat : Int)) = a + b := by
      rw [BitVec.ofInt_add, BitVec.ofInt_natCast, BitVec.ofInt_natCast, BitVec.ofNat_toNat, BitVec.ofNat_toNat, BitVec.setWidth_eq, BitVec.setWidth_eq]
    simpa only [IntKind.bits, hh] using h)

theorem v8_sub {a b : BitVec 8} (hx : ev n e x = .int .u8 (a.toNat : Int)) (hy : ev n e y = .int .u8 (b.toNat : Int)) (h : ow P n l0 K l (upd e d (.int .u8 ((a - b).toNat : Int))) w) :
    ow P n l0 K (⟨some d, .binOp .sub TX x y TY, T, pos, af, none⟩ :: l) e w :=
  b_sub hx hy (by
    rw [wrap_nat_u rfl]
    have hh : BitVec.ofInt 8 ((a.toNat : Int) - (b.toNat : Int)) = a - b := by
      rw [Int.sub_eq_add_neg, BitVec.ofInt_add, BitVec.ofInt_neg, BitVec.ofInt_natCast, BitVec.ofInt_natCast, BitVec.ofNat_toNat, BitVec.ofNat_toNat, BitVec.setWidth_eq, BitVec.setWidth_eq, BitVec.sub_eq_add_neg]
    simpa only [IntKind.bits, hh] using h)

theorem v8_mul {a b : BitVec 8} (hx : ev n e x = .int .u8 (a.toNat : Int)) (hy : ev n e y = .int .u8 (b.toNat : Int)) (h : ow P n l0 K l (upd e d (.int .u8 ((a * b).toNat : Int))) w) :
    ow P n l0 K (⟨some d, .binOp .mul TX x y TY, T, pos, af, none⟩ :: l) e w :=
  b_mul hx hy (by
    rw [wrap_nat_u rfl]
    have hh : BitVec.ofInt 8 ((a.toNat : Int) * (b.toNat : Int)) = a * b := by
      rw [BitVec.ofInt_mul, BitVec.ofInt_natCast, BitVec.ofInt_natCast, BitVec.ofNat_toNat, BitVec.ofNat_toNat, BitVec.setWidth_eq, BitVec.setWidth_eq]
    simpa only [IntKind.bits, hh] using h)

theorem v8_not {a : BitVec 8} (hx : ev n e x = .int .u8 (a.toNat : Int)) (h : ow P n l0 K l (upd e d (.int .u8 ((~~~ a).toNat : Int))) w) :
    ow P n l0 K (⟨some d, .unOp .xor TX x, T, pos, af, none⟩ :: l) e w :=
  u_xor hx (by
    rw [wrap_nat_u rfl]
    have hh : BitVec.ofInt 8 (if IntKind.u8.signed then -1 else IntKind.u8.max) ^^^ BitVec.ofInt 8 (a.toNat : Int) = ~~~ a := by
      rw [BitVec.ofInt_natCast, BitVec.ofNat_toNat, BitVec.setWidth_eq, show BitVec.ofInt 8 (if IntKind.u8.signed then -1 else IntKind.u8.max) = BitVec.allOnes 8 from by decide, BitVec.allOnes_xor]
    simp only [IntKind.bits, hh, BitVec.ofInt_natCast, BitVec.ofNat_toNat, BitVec.setWidth_eq]
    exact h)
theorem v8_neg {a : BitVec 8} (hx : ev n e x = .int .u8 (a.toNat : Int)) (h : ow P n l0 K l (upd e d (.int .u8 ((- a).toNat : Int))) w) :
    ow P n l0 K (⟨some d, .unOp .neg TX x, T, pos, af, none⟩ :: l) e w :=
  u_neg hx (by
    rw [wrap_nat_u rfl]
    have hh : BitVec.ofInt 8 (0 - (a.toNat : Int)) = - a := by
      rw [Int.zero_sub, BitVec.ofInt_neg, BitVec.ofInt_natCast, BitVec.ofNat_toNat, BitVec.setWidth_eq]
    simpa only [IntKind.bits, hh] using h)
/-- shifts by a count that is a natural number -/
theorem v8_shr {a : BitVec 8} {k' : IntKind} {b : Int} (hx : ev n e x = .int .u8 (a.toNat : Int)) (hy : ev n e y = .int k' b) (hb : 0 ≤ b) (h : ow P n l0 K l (upd e d (.int .u8 ((a >>> b.toNat).toNat : Int))) w) :
    ow P n l0 K (⟨some d, .binOp .shr TX x y TY, T, pos, af, none⟩ :: l) e w :=
  b_shr hx hy hb (by
    have hh : (a.toNat : Int).fdiv (2 ^ min b.toNat IntKind.u8.bits) = ((a >>> b.toNat).toNat : Int) := by
      rw [Int.fdiv_eq_ediv_of_nonneg _ (Int.le_of_lt (Int.pow_pos (by decide))), BitVec.toNat_ushiftRight, Nat.shiftRight_eq_div_pow, Int.natCast_ediv]
      simp only [IntKind.bits]
      by_cases hc : b.toNat ≤ 8
      · rw [Nat.min_eq_left hc]; simp
      · rw [Nat.min_eq_right (by omega), Int.ediv_eq_zero_of_lt (by omega) (by have := a.isLt; exact_mod_cast this), Int.ediv_eq_zero_of_lt (by omega)]
        have h1 := a.isLt
        have h2 : 2 ^ 8 ≤ 2 ^ b.toNat := Nat.pow_le_pow_right (by decide) (by omega)
        exact_mod_cast Nat.lt_of_lt_of_le h1 h2
    rw [hh]; exact h)
theorem v8_shl {a : BitVec 8} {k' : IntKind} {b : Int} (hx : ev n e x = .int .u8 (a.toNat : Int)) (hy : ev n e y = .int k' b) (hb : 0 ≤ b) (h : ow P n l0 K l (upd e d (.int .u8 ((a <<< b.toNat).toNat : Int))) w) :
    ow P n l0 K (⟨some d, .binOp .shl TX x y TY, T, pos, af, none⟩ :: l) e w :=
  b_shl hx hy hb (by
    have hh : IntKind.u8.wrap ((a.toNat : Int) * 2 ^ min b.toNat IntKind.u8.bits) = ((a <<< b.toNat).toNat : Int) := by
      rw [wrap_nat_u rfl, BitVec.toNat_shiftLeft, Nat.shiftLeft_eq]
      simp only [IntKind.bits]
      by_cases hc : b.toNat ≤ 8
      · rw [Nat.min_eq_left hc, BitVec.toNat_ofInt]
        norm_cast
      · rw [Nat.min_eq_right (by omega), BitVec.toNat_ofInt]
        have e1 : a.toNat * 2 ^ b.toNat % 2 ^ 8 = 0 := by
          rw [show b.toNat = (b.toNat - 8) + 8 by omega, Nat.pow_add, ← Nat.mul_assoc, Nat.mul_mod_left]
        rw [e1]
        have e2 : ((a.toNat : Int) * 2 ^ 8) % ((2 ^ 8 : Nat) : Int) = 0 := by
          rw [show ((2 ^ 8 : Nat) : Int) = 2 ^ 8 by norm_cast]; exact Int.mul_emod_left _ _
        rw [e2]; rfl
    rw [hh]; exact h)
theorem v8_eql {a b : BitVec 8} (hx : ev n e x = .int .u8 (a.toNat : Int)) (hy : ev n e y = .int .u8 (b.toNat : Int)) (h : ow P n l0 K l (upd e d (.bool (decide (a = b)))) w) :
    ow P n l0 K (⟨some d, .binOp .eql TX x y TY, T, pos, af, none⟩ :: l) e w :=
  b_eql hx hy (by rw [show decide ((a.toNat : Int) = (b.toNat : Int)) = decide (a = b) from by rw [decide_eq_decide, BitVec.toNat_eq]; omega]; exact h)
theorem v8_neq {a b : BitVec 8} (hx : ev n e x = .int .u8 (a.toNat : Int)) (hy : ev n e y = .int .u8 (b.toNat : Int)) (h : ow P n l0 K l (upd e d (.bool (decide (a ≠ b)))) w) :
    ow P n l0 K (⟨some d, .binOp .neq TX x y TY, T, pos, af, none⟩ :: l) e w :=
  b_neq hx hy (by rw [show decide ((a.toNat : Int) ≠ (b.toNat : Int)) = decide (a ≠ b) from by rw [decide_eq_decide, ne_eq, ne_eq, BitVec.toNat_eq]; omega]; exact h)
/-- a conversion from an integer -/
theorem cv8 {k' : IntKind} {a : Int} {S D : TypeId} (hs : (P.underlying S).isSome = true) (hd : P.underlying D = some (.int .u8)) (hx : ev n e x = .int k' a) (h : ow P n l0 K l (upd e d (.int .u8 ((BitVec.ofInt 8 a).toNat : Int))) w) :
    ow P n l0 K (⟨some d, .convert S D x, T, pos, af, none⟩ :: l) e w :=
  c_int hs hd hx (by rw [wrap_nat_u rfl]; exact h)

theorem cv8_8 {a : BitVec 8} {S D : TypeId} (hs : (P.underlying S).isSome = true) (hd : P.underlying D = some (.int .u8)) (hx : ev n e x = .int .u8 (a.toNat : Int)) (h : ow P n l0 K l (upd e d (.int .u8 ((a.setWidth 8).toNat : Int))) w) :
    ow P n l0 K (⟨some d, .convert S D x, T, pos, af, none⟩ :: l) e w :=
  cv8 hs hd hx (by rw [BitVec.ofInt_natCast, BitVec.ofNat_toNat]; exact h)

theorem cv16_8 {a : BitVec 16} {S D : TypeId} (hs : (P.underlying S).isSome = true) (hd : P.underlying D = some (.int .u8)) (hx : ev n e x = .int .u16 (a.toNat : Int)) (h : ow P n l0 K l (upd e d (.int .u8 ((a.setWidth 8).toNat : Int))) w) :
    ow P n l0 K (⟨some d, .convert S D x, T, pos, af, none⟩ :: l) e w :=
  cv8 hs hd hx (by rw [BitVec.ofInt_natCast, BitVec.ofNat_toNat]; exact h)

theorem cv32_8 {a : BitVec 32} {S D : TypeId} (hs : (P.underlying S).isSome = true) (hd : P.underlying D = some (.int .u8)) (hx : ev n e x = .int .u32 (a.toNat : Int)) (h : ow P n l0 K l (upd e d (.int .u8 ((a.setWidth 8).toNat : Int))) w) :
    ow P n l0 K (⟨some d, .convert S D x, T, pos, af, none⟩ :: l) e w :=
  cv8 hs hd hx (by rw [BitVec.ofInt_natCast, BitVec.ofNat_toNat]; exact h)

theorem cv64_8 {a : BitVec 64} {S D : TypeId} (hs : (P.underlying S).isSome = true) (hd : P.underlying D = some (.int .u8)) (hx : ev n e x = .int .u64 (a.toNat : Int)) (h : ow P n l0 K l (upd e d (.int .u8 ((a.setWidth 8).toNat : Int))) w) :
    ow P n l0 K (⟨some d, .convert S D x, T, pos, af, none⟩ :: l) e w :=
  cv8 hs hd hx (by rw [BitVec.ofInt_natCast, BitVec.ofNat_toNat]; exact h)

/-- to int -/
theorem cv8_i {a : BitVec 8} {S D : TypeId} (hs : (P.underlying S).isSome = true) (hd : P.underlying D = some (.int .i64)) (hx : ev n e x = .int .u8 (a.toNat : Int)) (h : ow P n l0 K l (upd e d (.int .i64 (a.toNat : Int))) w) :
    ow P n l0 K (⟨some d, .convert S D x, T, pos, af, none⟩ :: l) e w :=
  c_in hs hd hx (by have := a.isLt; simp [IntKind.min, IntKind.max, IntKind.signed, IntKind.bits]; omega) h

theorem v16_and {a b : BitVec 16} (hx : ev n e x = .int .u16 (a.toNat : Int)) (hy : ev n e y = .int .u16 (b.toNat : Int)) (h : ow P n l0 K l (upd e d (.int .u16 ((a &&& b).toNat : Int))) w) :
    ow P n l0 K (⟨some d, .binOp .and TX x y TY, T, pos, af, none⟩ :: l) e w :=
  b_and hx hy (by rw [wrap_nat_u rfl]; simp only [IntKind.bits, BitVec.ofInt_natCast, BitVec.ofNat_toNat, BitVec.setWidth_eq]; exact h)

theorem v16_or {a b : BitVec 16} (hx : ev n e x = .int .u16 (a.toNat : Int)) (hy : ev n e y = .int .u16 (b.toNat : Int)) (h : ow P n l0 K l (upd e d (.int .u16 ((a ||| b).toNat : Int))) w) :
    ow P n l0 K (⟨some d, .binOp .or TX x y TY, T, pos, af, none⟩ :: l) e w :=
  b_or hx hy (by rw [wrap_nat_u rfl]; simp only [IntKind.bits, BitVec.ofInt_natCast, BitVec.ofNat_toNat, BitVec.setWidth_eq]; exact h)

theorem v16_xor {a b : BitVec 16} (hx : ev n e x = .int .u16 (a.toNat : Int)) (hy : ev n e y = .int .u16 (b.toNat : Int)) (h : ow P n l0 K l (upd e d (.int .u16 ((a ^^^ b).toNat : Int))) w) :
    ow P n l0 K (⟨some d, .binOp .xor TX x y TY, T, pos, af, none⟩ :: l) e w :=
  b_xor hx hy (by rw [wrap_nat_u rfl]; simp only [IntKind.bits, BitVec.ofInt_natCast, BitVec.ofNat_toNat, BitVec.setWidth_eq]; exact h)

theorem v16_add {a b : BitVec 16} (hx : ev n e x = .int .u16 (a.toNat : Int)) (hy : ev n e y = .int .u16 (b.toNat : Int)) (h : ow P n l0 K l (upd e d (.int .u16 ((a + b).toNat : Int))) w) :
    ow P n l0 K (⟨some d, .binOp .add TX x y TY, T, pos, af, none⟩ :: l) e w :=
  b_add hx hy (by
    rw [wrap_nat_u rfl]
    have hh : BitVec.ofInt 16 ((a.toNat : Int) + (b.toNat : Int)) = a + b := by
      rw [BitVec.ofInt_add, BitVec.ofInt_natCast, BitVec.ofInt_natCast, BitVec.ofNat_toNat, BitVec.ofNat_toNat, BitVec.setWidth_eq, BitVec.setWidth_eq]
    simpa only [IntKind.bits, hh] using h)

theorem v16_sub {a b : BitVec 16} (hx : ev n e x = .int .u16 (a.toNat : Int)) (hy : ev n e y = .int .u16 (b.toNat : Int)) (h : ow P n l0 K l (upd e d (.int .u16 ((a - b).toNat : Int))) w) :
    ow P n l0 K (⟨some d, .binOp .sub TX x y TY, T, pos, af, none⟩ :: l) e w :=
  b_sub hx hy (by
    rw [wrap_nat_u rfl]
    have hh : BitVec.ofInt 16 ((a.toNat : Int) - (b.toNat : Int)) = a - b := by
      rw [Int.sub_eq_add_neg, BitVec.ofInt_add, BitVec.ofInt_neg, BitVec.ofInt_natCast, BitVec.ofInt_natCast, BitVec.ofNat_toNat, BitVec.ofNat_toNat, BitVec.setWidth_eq, BitVec.setWidth_eq, BitVec.sub_eq_add_neg]
    simpa only [IntKind.bits, hh] using h)

theorem v16_mul {a b : BitVec 16} (hx : ev n e x = .int .u16 (a.toNat : Int)) (hy : ev n e y = .int .u16 (b.toNat : Int)) (h : ow P n l0 K l (upd e d (.int .u16 ((a * b).toNat : Int))) w) :
    ow P n l0 K (⟨some d, .binOp .mul TX x y TY, T, pos, af, none⟩ :: l) e w :=
  b_mul hx hy (by
    rw [wrap_nat_u rfl]
    have hh : BitVec.ofInt 16 ((a.toNat : Int) * (b.toNat : Int)) = a * b := by
      rw [BitVec.ofInt_mul, BitVec.ofInt_natCast, BitVec.ofInt_natCast, BitVec.ofNat_toNat, BitVec.ofNat_toNat, BitVec.setWidth_eq, BitVec.setWidth_eq]
    simpa only [IntKind.bits, hh] using h)

theorem v16_not {a : BitVec 16} (hx : ev n e x = .int .u16 (a.toNat : Int)) (h : ow P n l0 K l (upd e d (.int .u16 ((~~~ a).toNat : Int))) w) :
    ow P n l0 K (⟨some d, .unOp .xor TX x, T, pos, af, none⟩ :: l) e w :=
  u_xor hx (by
    rw [wrap_nat_u rfl]
    have hh : BitVec.ofInt 16 (if IntKind.u16.signed then -1 else IntKind.u16.max) ^^^ BitVec.ofInt 16 (a.toNat : Int) = ~~~ a := by
      rw [BitVec.ofInt_natCast, BitVec.ofNat_toNat, BitVec.setWidth_eq, show BitVec.ofInt 16 (if IntKind.u16.signed then -1 else IntKind.u16.max) = BitVec.allOnes 16 from by decide, BitVec.allOnes_xor]
    simp only [IntKind.bits, hh, BitVec.ofInt_natCast, BitVec.ofNat_toNat, BitVec.setWidth_eq]
    exact h)
theorem v16_neg {a : BitVec 16} (hx : ev n e x = .int .u16 (a.toNat : Int)) (h : ow P n l0 K l (upd e d (.int .u16 ((- a).toNat : Int))) w) :
    ow P n l0 K (⟨some d, .unOp .neg TX x, T, pos, af, none⟩ :: l) e w :=
  u_neg hx (by
    rw [wrap_nat_u rfl]
    have hh : BitVec.ofInt 16 (0 - (a.toNat : Int)) = - a := by
      rw [Int.zero_sub, BitVec.ofInt_neg, BitVec.ofInt_natCast, BitVec.ofNat_toNat, BitVec.setWidth_eq]
    simpa only [IntKind.bits, hh] using h)
/-- shifts by a count that is a natural number -/
theorem v16_shr {a : BitVec 16} {k' : IntKind} {b : Int} (hx : ev n e x = .int .u16 (a.toNat : Int)) (hy : ev n e y = .int k' b) (hb : 0 ≤ b) (h : ow P n l0 K l (upd e d (.int .u16 ((a >>> b.toNat).toNat : Int))) w) :
    ow P n l0 K (⟨some d, .binOp .shr TX x y TY, T, pos, af, none⟩ :: l) e w :=
  b_shr hx hy hb (by
    have hh : (a.toNat : Int).fdiv (2 ^ min b.toNat IntKind.u16.bits) = ((a >>> b.toNat).toNat : Int) := by
      rw [Int.fdiv_eq_ediv_of_nonneg _ (Int.le_of_lt (Int.pow_pos (by decide))), BitVec.toNat_ushiftRight, Nat.shiftRight_eq_div_pow, Int.natCast_ediv]
      simp only [IntKind.bits]
      by_cases hc : b.toNat ≤ 16
      · rw [Nat.min_eq_left hc]; simp
      · rw [Nat.min_eq_right (by omega), Int.ediv_eq_zero_of_lt (by omega) (by have := a.isLt; exact_mod_cast this), Int.ediv_eq_zero_of_lt (by omega)]
        have h1 := a.isLt
        have h2 : 2 ^ 16 ≤ 2 ^ b.toNat := Nat.pow_le_pow_right (by decide) (by omega)
        exact_mod_cast Nat.lt_of_lt_of_le h1 h2
    rw [hh]; exact h)
theorem v16_shl {a : BitVec 16} {k' : IntKind} {b : Int} (hx : ev n e x = .int .u16 (a.toNat : Int)) (hy : ev n e y = .int k' b) (hb : 0 ≤ b) (h : ow P n l0 K l (upd e d (.int .u16 ((a <<< b.toNat).toNat : Int))) w) :
    ow P n l0 K (⟨some d, .binOp .shl TX x y TY, T, pos, af, none⟩ :: l) e w :=
  b_shl hx hy hb (by
    have hh : IntKind.u16.wrap ((a.toNat : Int) * 2 ^ min b.toNat IntKind.u16.bits) = ((a <<< b.toNat).toNat : Int) := by
      rw [wrap_nat_u rfl, BitVec.toNat_shiftLeft, Nat.shiftLeft_eq]
      simp only [IntKind.bits]
      by_cases hc : b.toNat ≤ 16
      · rw [Nat.min_eq_left hc, BitVec.toNat_ofInt]
        norm_cast
      · rw [Nat.min_eq_right (by omega), BitVec.toNat_ofInt]
        have e1 : a.toNat * 2 ^ b.toNat % 2 ^ 16 = 0 := by
          rw [show b.toNat = (b.toNat - 16) + 16 by omega, Nat.pow_add, ← Nat.mul_assoc, Nat.mul_mod_left]
        rw [e1]
        have e2 : ((a.toNat : Int) * 2 ^ 16) % ((2 ^ 16 : Nat) : Int) = 0 := by
          rw [show ((2 ^ 16 : Nat) : Int) = 2 ^ 16 by norm_cast]; exact Int.mul_emod_left _ _
        rw [e2]; rfl
    rw [hh]; exact h)
theorem v16_eql {a b : BitVec 16} (hx : ev n e x = .int .u16 (a.toNat : Int)) (hy : ev n e y = .int .u16 (b.toNat : Int)) (h : ow P n l0 K l (upd e d (.bool (decide (a = b)))) w) :
    ow P n l0 K (⟨some d, .binOp .eql TX x y TY, T, pos, af, none⟩ :: l) e w :=
  b_eql hx hy (by rw [show decide ((a.toNat : Int) = (b.toNat : Int)) = decide (a = b) from by rw [decide_eq_decide, BitVec.toNat_eq]; omega]; exact h)
theorem v16_neq {a b : BitVec 16} (hx : ev n e x = .int .u16 (a.toNat : Int)) (hy : ev n e y = .int .u16 (b.toNat : Int)) (h : ow P n l0 K l (upd e d (.bool (decide (a ≠ b)))) w) :
    ow P n l0 K (⟨some d, .binOp .neq TX x y TY, T, pos, af, none⟩ :: l) e w :=
  b_neq hx hy (by rw [show decide ((a.toNat : Int) ≠ (b.toNat : Int)) = decide (a ≠ b) from by rw [decide_eq_decide, ne_eq, ne_eq, BitVec.toNat_eq]; omega]; exact h)
/-- a conversion from an integer -/
theorem cv16 {k' : IntKind} {a : Int} {S D : TypeId} (hs : (P.underlying S).isSome = true) (hd : P.underlying D = some (.int .u16)) (hx : ev n e x = .int k' a) (h : ow P n l0 K l (upd e d (.int .u16 ((BitVec.ofInt 16 a).toNat : Int))) w) :
    ow P n l0 K (⟨some d, .convert S D x, T, pos, af, none⟩ :: l) e w :=
  c_int hs hd hx (by rw [wrap_nat_u rfl]; exact h)

theorem cv8_16 {a : BitVec 8} {S D : TypeId} (hs : (P.underlying S).isSome = true) (hd : P.underlying D = some (.int .u16)) (hx : ev n e x = .int .u8 (a.toNat : Int)) (h : ow P n l0 K l (upd e d (.int .u16 ((a.setWidth 16).toNat : Int))) w) :
    ow P n l0 K (⟨some d, .convert S D x, T, pos, af, none⟩ :: l) e w :=
  cv16 hs hd hx (by rw [BitVec.ofInt_natCast, BitVec.ofNat_toNat]; exact h)

theorem cv16_16 {a : BitVec 16} {S D : TypeId} (hs : (P.underlying S).isSome = true) (hd : P.underlying D = some (.int .u16)) (hx : ev n e x = .int .u16 (a.toNat : Int)) (h : ow P n l0 K l (upd e d (.int .u16 ((a.setWidth 16).toNat : Int))) w) :
    ow P n l0 K (⟨some d, .convert S D x, T, pos, af, none⟩ :: l) e w :=
  cv16 hs hd hx (by rw [BitVec.ofInt_natCast, BitVec.ofNat_toNat]; exact h)

theorem cv32_16 {a : BitVec 32} {S D : TypeId} (hs : (P.underlying S).isSome = true) (hd : P.underlying D = some (.int .u16)) (hx : ev n e x = .int .u32 (a.toNat : Int)) (h : ow P n l0 K l (upd e d (.int .u16 ((a.setWidth 16).toNat : Int))) w) :
    ow P n l0 K (⟨some d, .convert S D x, T, pos, af, none⟩ :: l) e w :=
  cv16 hs hd hx (by rw [BitVec.ofInt_natCast, BitVec.ofNat_toNat]; exact h)

theorem cv64_16 {a : BitVec 64} {S D : TypeId} (hs : (P.underlying S).isSome = true) (hd : P.underlying D = some (.int .u16)) (hx : ev n e x = .int .u64 (a.toNat : Int)) (h : ow P n l0 K l (upd e d (.int .u16 ((a.setWidth 16).toNat : Int))) w) :
    ow P n l0 K (⟨some d, .convert S D x, T, pos, af, none⟩ :: l) e w :=
  cv16 hs hd hx (by rw [BitVec.ofInt_natCast, BitVec.ofNat_toNat]; exact h)

/-- to int -/
theorem cv16_i {a : BitVec 16} {S D : TypeId} (hs : (P.underlying S).isSome = true) (hd : P.underlying D = some (.int .i64)) (hx : ev n e x = .int .u16 (a.toNat : Int)) (h : ow P n l0 K l (upd e d (.int .i64 (a.toNat : Int))) w) :
    ow P n l0 K (⟨some d, .convert S D x, T, pos, af, none⟩ :: l) e w :=
  c_in hs hd hx (by have := a.isLt; simp [IntKind.min, IntKind.max, IntKind.signed, IntKind.bits]; omega) h

theorem v32_and {a b : BitVec 32} (hx : ev n e x = .int .u32 (a.toNat : Int)) (hy : ev n e y = .int .u32 (b.toNat : Int)) (h : ow P n l0 K l (upd e d (.int .u32 ((a &&& b).toNat : Int))) w) :
    ow P n l0 K (⟨some d, .binOp .and TX x y TY, T, pos, af, none⟩ :: l) e w :=
  b_and hx hy (by rw [wrap_nat_u rfl]; simp only [IntKind.bits, BitVec.ofInt_natCast, BitVec.ofNat_toNat, BitVec.setWidth_eq]; exact h)

theorem v32_or {a b : BitVec 32} (hx : ev n e x = .int .u32 (a.toNat : Int)) (hy : ev n e y = .int .u32 (b.toNat : Int)) (h : ow P n l0 K l (upd e d (.int .u32 ((a ||| b).toNat : Int))) w) :
    ow P n l0 K (⟨some d, .binOp .or TX x y TY, T, pos, af, none⟩ :: l) e w :=
  b_or hx hy (by rw [wrap_nat_u rfl]; simp only [IntKind.bits, BitVec.ofInt_natCast, BitVec.ofNat_toNat, BitVec.setWidth_eq]; exact h)

theorem v32_xor {a b : BitVec 32} (hx : ev n e x = .int .u32 (a.toNat : Int)) (hy : ev n e y = .int .u32 (b.toNat : Int)) (h : ow P n l0 K l (upd e d (.int .u32 ((a ^^^ b).toNat : Int))) w) :
    ow P n l0 K (⟨some d, .binOp .xor TX x y TY, T, pos, af, none⟩ :: l) e w :=
  b_xor hx hy (by rw [wrap_nat_u rfl]; simp only [IntKind.bits, BitVec.ofInt_natCast, BitVec.ofNat_toNat, BitVec.setWidth_eq]; exact h)

theorem v32_add {a b : BitVec 32} (hx : ev n e x = .int .u32 (a.toNat : Int)) (hy : ev n e y = .int .u32 (b.toNat : Int)) (h : ow P n l0 K l (upd e d (.int .u32 ((a + b).toNat : Int))) w) :
    ow P n l0 K (⟨some d, .binOp .add TX x y TY, T, pos, af, none⟩ :: l) e w :=
  b_add hx hy (by
    rw [wrap_nat_u rfl]
    have hh : BitVec.ofInt 32 ((a.toNat : Int) + (b.toNat : Int)) = a + b := by
      rw [BitVec.ofInt_add, BitVec.ofInt_natCast, BitVec.ofInt_natCast, BitVec.ofNat_toNat, BitVec.ofNat_toNat, BitVec.setWidth_eq, BitVec.setWidth_eq]
    simpa only [IntKind.bits, hh] using h)

theorem v32_sub {a b : BitVec 32} (hx : ev n e x = .int .u32 (a.toNat : Int)) (hy : ev n e y = .int .u32 (b.toNat : Int)) (h : ow P n l0 K l (upd e d (.int .u32 ((a - b).toNat : Int))) w) :
    ow P n l0 K (⟨some d, .binOp .sub TX x y TY, T, pos, af, none⟩ :: l) e w :=
  b_sub hx hy (by
    rw [wrap_nat_u rfl]
    have hh : BitVec.ofInt 32 ((a.toNat : Int) - (b.toNat : Int)) = a - b := by
      rw [Int.sub_eq_add_neg, BitVec.ofInt_add, BitVec.ofInt_neg, BitVec.ofInt_natCast, BitVec.ofInt_natCast, BitVec.ofNat_toNat, BitVec.ofNat_toNat, BitVec.setWidth_eq, BitVec.setWidth_eq, BitVec.sub_eq_add_neg]
    simpa only [IntKind.bits, hh] using h)

theorem v32_mul {a b : BitVec 32} (hx : ev n e x = .int .u32 (a.toNat : Int)) (hy : ev n e y = .int .u32 (b.toNat : Int)) (h : ow P n l0 K l (upd e d (.int .u32 ((a * b).toNat : Int))) w) :
    ow P n l0 K (⟨some d, .binOp .mul TX x y TY, T, pos, af, none⟩ :: l) e w :=
  b_mul hx hy (by
    rw [wrap_nat_u rfl]
    have hh : BitVec.ofInt 32 ((a.toNat : Int) * (b.toNat : Int)) = a * b := by
      rw [BitVec.ofInt_mul, BitVec.ofInt_natCast, BitVec.ofInt_natCast, BitVec.ofNat_toNat, BitVec.ofNat_toNat, BitVec.setWidth_eq, BitVec.setWidth_eq]
    simpa only [IntKind.bits, hh] using h)

theorem v32_not {a : BitVec 32} (hx : ev n e x = .int .u32 (a.toNat : Int)) (h : ow P n l0 K l (upd e d (.int .u32 ((~~~ a).toNat : Int))) w) :
    ow P n l0 K (⟨some d, .unOp .xor TX x, T, pos, af, none⟩ :: l) e w :=
  u_xor hx (by
    rw [wrap_nat_u rfl]
    have hh : BitVec.ofInt 32 (if IntKind.u32.signed then -1 else IntKind.u32.max) ^^^ BitVec.ofInt 32 (a.toNat : Int) = ~~~ a := by
      rw [BitVec.ofInt_natCast, BitVec.ofNat_toNat, BitVec.setWidth_eq, show BitVec.ofInt 32 (if IntKind.u32.signed then -1 else IntKind.u32.max) = BitVec.allOnes 32 from by decide, BitVec.allOnes_xor]
    simp only [IntKind.bits, hh, BitVec.ofInt_natCast, BitVec.ofNat_toNat, BitVec.setWidth_eq]
    exact h)
theorem v32_neg {a : BitVec 32} (hx : ev n e x = .int .u32 (a.toNat : Int)) (h : ow P n l0 K l (upd e d (.int .u32 ((- a).toNat : Int))) w) :
    ow P n l0 K (⟨some d, .unOp .neg TX x, T, pos, af, none⟩ :: l) e w :=
  u_neg hx (by
    rw [wrap_nat_u rfl]
    have hh : BitVec.ofInt 32 (0 - (a.toNat : Int)) = - a := by
      rw [Int.zero_sub, BitVec.ofInt_neg, BitVec.ofInt_natCast, BitVec.ofNat_toNat, BitVec.setWidth_eq]
    simpa only [IntKind.bits, hh] using h)
/-- shifts by a count that is a natural number -/
theorem v32_shr {a : BitVec 32} {k' : IntKind} {b : Int} (hx : ev n e x = .int .u32 (a.toNat : Int)) (hy : ev n e y = .int k' b) (hb : 0 ≤ b) (h : ow P n l0 K l (upd e d (.int .u32 ((a >>> b.toNat).toNat : Int))) w) :
    ow P n l0 K (⟨some d, .binOp .shr TX x y TY, T, pos, af, none⟩ :: l) e w :=
  b_shr hx hy hb (by
    have hh : (a.toNat : Int).fdiv (2 ^ min b.toNat IntKind.u32.bits) = ((a >>> b.toNat).toNat : Int) := by
      rw [Int.fdiv_eq_ediv_of_nonneg _ (Int.le_of_lt (Int.pow_pos (by decide))), BitVec.toNat_ushiftRight, Nat.shiftRight_eq_div_pow, Int.natCast_ediv]
      simp only [IntKind.bits]
      by_cases hc : b.toNat ≤ 32
      · rw [Nat.min_eq_left hc]; simp
      · rw [Nat.min_eq_right (by omega), Int.ediv_eq_zero_of_lt (by omega) (by have := a.isLt; exact_mod_cast this), Int.ediv_eq_zero_of_lt (by omega)]
        have h1 := a.isLt
        have h2 : 2 ^ 32 ≤ 2 ^ b.toNat := Nat.pow_le_pow_right (by decide) (by omega)
        exact_mod_cast Nat.lt_of_lt_of_le h1 h2
    rw [hh]; exact h)
theorem v32_shl {a : BitVec 32} {k' : IntKind} {b : Int} (hx : ev n e x = .int .u32 (a.toNat : Int)) (hy : ev n e y = .int k' b) (hb : 0 ≤ b) (h : ow P n l0 K l (upd e d (.int .u32 ((a <<< b.toNat).toNat : Int))) w) :
    ow P n l0 K (⟨some d, .binOp .shl TX x y TY, T, pos, af, none⟩ :: l) e w :=
  b_shl hx hy hb (by
    have hh : IntKind.u32.wrap ((a.toNat : Int) * 2 ^ min b.toNat IntKind.u32.bits) = ((a <<< b.toNat).toNat : Int) := by
      rw [wrap_nat_u rfl, BitVec.toNat_shiftLeft, Nat.shiftLeft_eq]
      simp only [IntKind.bits]
      by_cases hc : b.toNat ≤ 32
      · rw [Nat.min_eq_left hc, BitVec.toNat_ofInt]
        norm_cast
      · rw [Nat.min_eq_right (by omega), BitVec.toNat_ofInt]
        have e1 : a.toNat * 2 ^ b.toNat % 2 ^ 32 = 0 := by
          rw [show b.toNat = (b.toNat - 32) + 32 by omega, Nat.pow_add, ← Nat.mul_assoc, Nat.mul_mod_left]
        rw [e1]
        have e2 : ((a.toNat : Int) * 2 ^ 32) % ((2 ^ 32 : Nat) : Int) = 0 := by
          rw [show ((2 ^ 32 : Nat) : Int) = 2 ^ 32 by norm_cast]; exact Int.mul_emod_left _ _
        rw [e2]; rfl
    rw [hh]; exact h)
theorem v32_eql {a b : BitVec 32} (hx : ev n e x = .int .u32 (a.toNat : Int)) (hy : ev n e y = .int .u32 (b.toNat : Int)) (h : ow P n l0 K l (upd e d (.bool (decide (a = b)))) w) :
    ow P n l0 K (⟨some d, .binOp .eql TX x y TY, T, pos, af, none⟩ :: l) e w :=
  b_eql hx hy (by rw [show decide ((a.toNat : Int) = (b.toNat : Int)) = decide (a = b) from by rw [decide_eq_decide, BitVec.toNat_eq]; omega]; exact h)
theorem v32_neq {a b : BitVec 32} (hx : ev n e x = .int .u32 (a.toNat : Int)) (hy : ev n e y = .int .u32 (b.toNat : Int)) (h : ow P n l0 K l (upd e d (.bool (decide (a ≠ b)))) w) :
    ow P n l0 K (⟨some d, .binOp .neq TX x y TY, T, pos, af, none⟩ :: l) e w :=
  b_neq hx hy (by rw [show decide ((a.toNat : Int) ≠ (b.toNat : Int)) = decide (a ≠ b) from by rw [decide_eq_decide, ne_eq, ne_eq, BitVec.toNat_eq]; omega]; exact h)
/-- a conversion from an integer -/
theorem cv32 {k' : IntKind} {a : Int} {S D : TypeId} (hs : (P.underlying S).isSome = true) (hd : P.underlying D = some (.int .u32)) (hx : ev n e x = .int k' a) (h : ow P n l0 K l (upd e d (.int .u32 ((BitVec.ofInt 32 a).toNat : Int))) w) :
    ow P n l0 K (⟨some d, .convert S D x, T, pos, af, none⟩ :: l) e w :=
  c_int hs hd hx (by rw [wrap_nat_u rfl]; exact h)

theorem cv8_32 {a : BitVec 8} {S D : TypeId} (hs : (P.underlying S).isSome = true) (hd : P.underlying D = some (.int .u32)) (hx : ev n e x = .int .u8 (a.toNat : Int)) (h : ow P n l0 K l (upd e d (.int .u32 ((a.setWidth 32).toNat : Int))) w) :
    ow P n l0 K (⟨some d, .convert S D x, T, pos, af, none⟩ :: l) e w :=
  cv32 hs hd hx (by rw [BitVec.ofInt_natCast, BitVec.ofNat_toNat]; exact h)

theorem cv16_32 {a : BitVec 16} {S D : TypeId} (hs : (P.underlying S).isSome = true) (hd : P.underlying D = some (.int .u32)) (hx : ev n e x = .int .u16 (a.toNat : Int)) (h : ow P n l0 K l (upd e d (.int .u32 ((a.setWidth 32).toNat : Int))) w) :
    ow P n l0 K (⟨some d, .convert S D x, T, pos, af, none⟩ :: l) e w :=
  cv32 hs hd hx (by rw [BitVec.ofInt_natCast, BitVec.ofNat_toNat]; exact h)

theorem cv32_32 {a : BitVec 32} {S D : TypeId} (hs : (P.underlying S).isSome = true) (hd : P.underlying D = some (.int .u32)) (hx : ev n e x = .int .u32 (a.toNat : Int)) (h : ow P n l0 K l (upd e d (.int .u32 ((a.setWidth 32).toNat : Int))) w) :
    ow P n l0 K (⟨some d, .convert S D x, T, pos, af, none⟩ :: l) e w :=
  cv32 hs hd hx (by rw [BitVec.ofInt_natCast, BitVec.ofNat_toNat]; exact h)

theorem cv64_32 {a : BitVec 64} {S D : TypeId} (hs : (P.underlying S).isSome = true) (hd : P.underlying D = some (.int .u32)) (hx : ev n e x = .int .u64 (a.toNat : Int)) (h : ow P n l0 K l (upd e d (.int .u32 ((a.setWidth 32).toNat : Int))) w) :
    ow P n l0 K (⟨some d, .convert S D x, T, pos, af, none⟩ :: l) e w :=
  cv32 hs hd hx (by rw [BitVec.ofInt_natCast, BitVec.ofNat_toNat]; exact h)

/-- to int -/
theorem cv32_i {a : BitVec 32} {S D : TypeId} (hs : (P.underlying S).isSome = true) (hd : P.underlying D = some (.int .i64)) (hx : ev n e x = .int .u32 (a.toNat : Int)) (h : ow P n l0 K l (upd e d (.int .i64 (a.toNat : Int))) w) :
    ow P n l0 K (⟨some d, .convert S D x, T, pos, af, none⟩ :: l) e w :=
  c_in hs hd hx (by have := a.isLt; simp [IntKind.min, IntKind.max, IntKind.signed, IntKind.bits]; omega) h

theorem v64_and {a b : BitVec 64} (hx : ev n e x = .int .u64 (a.toNat : Int)) (hy : ev n e y = .int .u64 (b.toNat : Int)) (h : ow P n l0 K l (upd e d (.int .u64 ((a &&& b).toNat : Int))) w) :
    ow P n l0 K (⟨some d, .binOp .and TX x y TY, T, pos, af, none⟩ :: l) e w :=
  b_and hx hy (by rw [wrap_nat_u rfl]; simp only [IntKind.bits, BitVec.ofInt_natCast, BitVec.ofNat_toNat, BitVec.setWidth_eq]; exact h)

theorem v64_or {a b : BitVec 64} (hx : ev n e x = .int .u64 (a.toNat : Int)) (hy : ev n e y = .int .u64 (b.toNat : Int)) (h : ow P n l0 K l (upd e d (.int .u64 ((a ||| b).toNat : Int))) w) :
    ow P n l0 K (⟨some d, .binOp .or TX x y TY, T, pos, af, none⟩ :: l) e w :=
  b_or hx hy (by rw [wrap_nat_u rfl]; simp only [IntKind.bits, BitVec.ofInt_natCast, BitVec.ofNat_toNat, BitVec.setWidth_eq]; exact h)

theorem v64_xor {a b : BitVec 64} (hx : ev n e x = .int .u64 (a.toNat : Int)) (hy : ev n e y = .int .u64 (b.toNat : Int)) (h : ow P n l0 K l (upd e d (.int .u64 ((a ^^^ b).toNat : Int))) w) :
    ow P n l0 K (⟨some d, .binOp .xor TX x y TY, T, pos, af, none⟩ :: l) e w :=
  b_xor hx hy (by rw [wrap_nat_u rfl]; simp only [IntKind.bits, BitVec.ofInt_natCast, BitVec.ofNat_toNat, BitVec.setWidth_eq]; exact h)

theorem v64_add {a b : BitVec 64} (hx : ev n e x = .int .u64 (a.toNat : Int)) (hy : ev n e y = .int .u64 (b.toNat : Int)) (h : ow P n l0 K l (upd e d (.int .u64 ((a + b).toNat : Int))) w) :
    ow P n l0 K (⟨some d, .binOp .add TX x y TY, T, pos, af, none⟩ :: l) e w :=
  b_add hx hy (by
    rw [wrap_nat_u rfl]
    have hh : BitVec.ofInt 64 ((a.toNat : Int) + (b.toNat : Int)) = a + b := by
      rw [BitVec.ofInt_add, BitVec.ofInt_natCast, BitVec.ofInt_natCast, BitVec.ofNat_toNat, BitVec.ofNat_toNat, BitVec.setWidth_eq, BitVec.setWidth_eq]
    simpa only [IntKind.bits, hh] using h)

theorem v64_sub {a b : BitVec 64} (hx : ev n e x = .int .u64 (a.toNat : Int)) (hy : ev n e y = .int .u64 (b.toNat : Int)) (h : ow P n l0 K l (upd e d (.int .u64 ((a - b).toNat : Int))) w) :
    ow P n l0 K (⟨some d, .binOp .sub TX x y TY, T, pos, af, none⟩ :: l) e w :=
  b_sub hx hy (by
    rw [wrap_nat_u rfl]
    have hh : BitVec.ofInt 64 ((a.toNat : Int) - (b.toNat : Int)) = a - b := by
      rw [Int.sub_eq_add_neg, BitVec.ofInt_add, BitVec.ofInt_neg, BitVec.ofInt_natCast, BitVec.ofInt_natCast, BitVec.ofNat_toNat, BitVec.ofNat_toNat, BitVec.setWidth_eq, BitVec.setWidth_eq, BitVec.sub_eq_add_neg]
    simpa only [IntKind.bits, hh] using h)

theorem v64_mul {a b : BitVec 64} (hx : ev n e x = .int .u64 (a.toNat : Int)) (hy : ev n e y = .int .u64 (b.toNat : Int)) (h : ow P n l0 K l (upd e d (.int .u64 ((a * b).toNat : Int))) w) :
    ow P n l0 K (⟨some d, .binOp .mul TX x y TY, T, pos, af, none⟩ :: l) e w :=
  b_mul hx hy (by
    rw [wrap_nat_u rfl]
    have hh : BitVec.ofInt 64 ((a.toNat : Int) * (b.toNat : Int)) = a * b := by
      rw [BitVec.ofInt_mul, BitVec.ofInt_natCast, BitVec.ofInt_natCast, BitVec.ofNat_toNat, BitVec.ofNat_toNat, BitVec.setWidth_eq, BitVec.setWidth_eq]
    simpa only [IntKind.bits, hh] using h)

theorem v64_not {a : BitVec 64} (hx : ev n e x = .int .u64 (a.toNat : Int)) (h : ow P n l0 K l (upd e d (.int .u64 ((~~~ a).toNat : Int))) w) :
    ow P n l0 K (⟨some d, .unOp .xor TX x, T, pos, af, none⟩ :: l) e w :=
  u_xor hx (by
    rw [wrap_nat_u rfl]
    have hh : BitVec.ofInt 64 (if IntKind.u64.signed then -1 else IntKind.u64.max) ^^^ BitVec.ofInt 64 (a.toNat : Int) = ~~~ a := by
      rw [BitVec.ofInt_natCast, BitVec.ofNat_toNat, BitVec.setWidth_eq, show BitVec.ofInt 64 (if IntKind.u64.signed then -1 else IntKind.u64.max) = BitVec.allOnes 64 from by decide, BitVec.allOnes_xor]
    simp only [IntKind.bits, hh, BitVec.ofInt_natCast, BitVec.ofNat_toNat, BitVec.setWidth_eq]
    exact h)
theorem v64_neg {a : BitVec 64} (hx : ev n e x = .int .u64 (a.toNat : Int)) (h : ow P n l0 K l (upd e d (.int .u64 ((- a).toNat : Int))) w) :
    ow P n l0 K (⟨some d, .unOp .neg TX x, T, pos, af, none⟩ :: l) e w :=
  u_neg hx (by
    rw [wrap_nat_u rfl]
    have hh : BitVec.ofInt 64 (0 - (a.toNat : Int)) = - a := by
      rw [Int.zero_sub, BitVec.ofInt_neg, BitVec.ofInt_natCast, BitVec.ofNat_toNat, BitVec.setWidth_eq]
    simpa only [IntKind.bits, hh] using h)
/-- shifts by a count that is a natural number -/
theorem v64_shr {a : BitVec 64} {k' : IntKind} {b : Int} (hx : ev n e x = .int .u64 (a.toNat : Int)) (hy : ev n e y = .int k' b) (hb : 0 ≤ b) (h : ow P n l0 K l (upd e d (.int .u64 ((a >>> b.toNat).toNat : Int))) w) :
    ow P n l0 K (⟨some d, .binOp .shr TX x y TY, T, pos, af, none⟩ :: l) e w :=
  b_shr hx hy hb (by
    have hh : (a.toNat : Int).fdiv (2 ^ min b.toNat IntKind.u64.bits) = ((a >>> b.toNat).toNat : Int) := by
      rw [Int.fdiv_eq_ediv_of_nonneg _ (Int.le_of_lt (Int.pow_pos (by decide))), BitVec.toNat_ushiftRight, Nat.shiftRight_eq_div_pow, Int.natCast_ediv]
      simp only [IntKind.bits]
      by_cases hc : b.toNat ≤ 64
      · rw [Nat.min_eq_left hc]; simp
      · rw [Nat.min_eq_right (by omega), Int.ediv_eq_zero_of_lt (by omega) (by have := a.isLt; exact_mod_cast this), Int.ediv_eq_zero_of_lt (by omega)]
        have h1 := a.isLt
        have h2 : 2 ^ 64 ≤ 2 ^ b.toNat := Nat.pow_le_pow_right (by decide) (by omega)
        exact_mod_cast Nat.lt_of_lt_of_le h1 h2
    rw [hh]; exact h)
theorem v64_shl {a : BitVec 64} {k' : IntKind} {b : Int} (hx : ev n e x = .int .u64 (a.toNat : Int)) (hy : ev n e y = .int k' b) (hb : 0 ≤ b) (h : ow P n l0 K l (upd e d (.int .u64 ((a <<< b.toNat).toNat : Int))) w) :
    ow P n l0 K (⟨some d, .binOp .shl TX x y TY, T, pos, af, none⟩ :: l) e w :=
  b_shl hx hy hb (by
    have hh : IntKind.u64.wrap ((a.toNat : Int) * 2 ^ min b.toNat IntKind.u64.bits) = ((a <<< b.toNat).toNat : Int) := by
      rw [wrap_nat_u rfl, BitVec.toNat_shiftLeft, Nat.shiftLeft_eq]
      simp only [IntKind.bits]
      by_cases hc : b.toNat ≤ 64
      · rw [Nat.min_eq_left hc, BitVec.toNat_ofInt]
        norm_cast
      · rw [Nat.min_eq_right (by omega), BitVec.toNat_ofInt]
        have e1 : a.toNat * 2 ^ b.toNat % 2 ^ 64 = 0 := by
          rw [show b.toNat = (b.toNat - 64) + 64 by omega, Nat.pow_add, ← Nat.mul_assoc, Nat.mul_mod_left]
        rw [e1]
        have e2 : ((a.toNat : Int) * 2 ^ 64) % ((2 ^ 64 : Nat) : Int) = 0 := by
          rw [show ((2 ^ 64 : Nat) : Int) = 2 ^ 64 by norm_cast]; exact Int.mul_emod_left _ _
        rw [e2]; rfl
    rw [hh]; exact h)
theorem v64_eql {a b : BitVec 64} (hx : ev n e x = .int .u64 (a.toNat : Int)) (hy : ev n e y = .int .u64 (b.toNat : Int)) (h : ow P n l0 K l (upd e d (.bool (decide (a = b)))) w) :
    ow P n l0 K (⟨some d, .binOp .eql TX x y TY, T, pos, af, none⟩ :: l) e w :=
  b_eql hx hy (by rw [show decide ((a.toNat : Int) = (b.toNat : Int)) = decide (a = b) from by rw [decide_eq_decide, BitVec.toNat_eq]; omega]; exact h)
theorem v64_neq {a b : BitVec 64} (hx : ev n e x = .int .u64 (a.toNat : Int)) (hy : ev n e y = .int .u64 (b.toNat : Int)) (h : ow P n l0 K l (upd e d (.bool (decide (a ≠ b)))) w) :
    ow P n l0 K (⟨some d, .binOp .neq TX x y TY, T, pos, af, none⟩ :: l) e w :=
  b_neq hx hy (by rw [show decide ((a.toNat : Int) ≠ (b.toNat : Int)) = decide (a ≠ b) from by rw [decide_eq_decide, ne_eq, ne_eq, BitVec.toNat_eq]; omega]; exact h)
/-- a conversion from an integer -/
theorem cv64 {k' : IntKind} {a : Int} {S D : TypeId} (hs : (P.underlying S).isSome = true) (hd : P.underlying D = some (.int .u64)) (hx : ev n e x = .int k' a) (h : ow P n l0 K l (upd e d (.int .u64 ((BitVec.ofInt 64 a).toNat : Int))) w) :
    ow P n l0 K (⟨some d, .convert S D x, T, pos, af, none⟩ :: l) e w :=
  c_int hs hd hx (by rw [wrap_nat_u rfl]; exact h)

theorem cv8_64 {a : BitVec 8} {S D : TypeId} (hs : (P.underlying S).isSome = true) (hd : P.underlying D = some (.int .u64)) (hx : ev n e x = .int .u8 (a.toNat : Int)) (h : ow P n l0 K l (upd e d (.int .u64 ((a.setWidth 64).toNat : Int))) w) :
    ow P n l0 K (⟨some d, .convert S D x, T, pos, af, none⟩ :: l) e w :=
  cv64 hs hd hx (by rw [BitVec.ofInt_natCast, BitVec.ofNat_toNat]; exact h)

theorem cv16_64 {a : BitVec 16} {S D : TypeId} (hs : (P.underlying S).isSome = true) (hd : P.underlying D = some (.int .u64)) (hx : ev n e x = .int .u16 (a.toNat : Int)) (h : ow P n l0 K l (upd e d (.int .u64 ((a.setWidth 64).toNat : Int))) w) :
    ow P n l0 K (⟨some d, .convert S D x, T, pos, af, none⟩ :: l) e w :=
  cv64 hs hd hx (by rw [BitVec.ofInt_natCast, BitVec.ofNat_toNat]; exact h)

theorem cv32_64 {a : BitVec 32} {S D : TypeId} (hs : (P.underlying S).isSome = true) (hd : P.underlying D = some (.int .u64)) (hx : ev n e x = .int .u32 (a.toNat : Int)) (h : ow P n l0 K l (upd e d (.int .u64 ((a.setWidth 64).toNat : Int))) w) :
    ow P n l0 K (⟨some d, .convert S D x, T, pos, af, none⟩ :: l) e w :=
  cv64 hs hd hx (by rw [BitVec.ofInt_natCast, BitVec.ofNat_toNat]; exact h)

theorem cv64_64 {a : BitVec 64} {S D : TypeId} (hs : (P.underlying S).isSome = true) (hd : P.underlying D = some (.int .u64)) (hx : ev n e x = .int .u64 (a.toNat : Int)) (h : ow P n l0 K l (upd e d (.int .u64 ((a.setWidth 64).toNat : Int))) w) :
    ow P n l0 K (⟨some d, .convert S D x, T, pos, af, none⟩ :: l) e w :=
  cv64 hs hd hx (by rw [BitVec.ofInt_natCast, BitVec.ofNat_toNat]; exact h)

/-- to int -/
theorem cv64_i {a : BitVec 64} {S D : TypeId} (hs : (P.underlying S).isSome = true) (hd : P.underlying D = some (.int .i64)) (hx : ev n e x = .int .u64 (a.toNat : Int)) (h : ow P n l0 K l (upd e d (.int .i64 a.toInt)) w) :
    ow P n l0 K (⟨some d, .convert S D x, T, pos, af, none⟩ :: l) e w :=
  c_int hs hd hx (by
    have hh : IntKind.i64.wrap (a.toNat : Int) = a.toInt := by
      have := a.isLt
      rw [BitVec.toInt_eq_toNat_cond]
      simp only [IntKind.wrap, IntKind.bits, IntKind.signed]
      simp
      omega
    rw [hh]; exact h)

theorem b_shln {k k' : IntKind} {a : Int} {c : Nat} (hx : ev n e x = .int k a) (hy : ev n e y = .int k' (c : Int)) (h : ow P n l0 K l (upd e d (.int k (k.wrap (a * 2 ^ min c k.bits)))) w) :
    ow P n l0 K (⟨some d, .binOp .shl TX x y TY, T, pos, af, none⟩ :: l) e w := b_shl hx hy (by omega) (by rw [Int.toNat_natCast]; exact h)
theorem b_shrn {k k' : IntKind} {a : Int} {c : Nat} (hx : ev n e x = .int k a) (hy : ev n e y = .int k' (c : Int)) (h : ow P n l0 K l (upd e d (.int k (a.fdiv (2 ^ min c k.bits)))) w) :
    ow P n l0 K (⟨some d, .binOp .shr TX x y TY, T, pos, af, none⟩ :: l) e w := b_shr hx hy (by omega) (by rw [Int.toNat_natCast]; exact h)
theorem c_i64 {k' : IntKind} {a : Int} {S D : TypeId} (hs : (P.underlying S).isSome = true) (hd : P.underlying D = some (.int .i64)) (hx : ev n e x = .int k' a) (hr : -9223372036854775808 ≤ a ∧ a ≤ 9223372036854775807) (h : ow P n l0 K l (upd e d (.int .i64 a)) w) :
    ow P n l0 K (⟨some d, .convert S D x, T, pos, af, none⟩ :: l) e w :=
  c_int hs hd hx (by rw [IntWalk.i64_in _ hr]; exact h)
theorem v8_shrn {a : BitVec 8} {k' : IntKind} {c : Nat} (hx : ev n e x = .int .u8 (a.toNat : Int)) (hy : ev n e y = .int k' (c : Int)) (h : ow P n l0 K l (upd e d (.int .u8 ((a >>> c).toNat : Int))) w) :
    ow P n l0 K (⟨some d, .binOp .shr TX x y TY, T, pos, af, none⟩ :: l) e w := v8_shr hx hy (by omega) (by rw [Int.toNat_natCast]; exact h)
theorem v8_shln {a : BitVec 8} {k' : IntKind} {c : Nat} (hx : ev n e x = .int .u8 (a.toNat : Int)) (hy : ev n e y = .int k' (c : Int)) (h : ow P n l0 K l (upd e d (.int .u8 ((a <<< c).toNat : Int))) w) :
    ow P n l0 K (⟨some d, .binOp .shl TX x y TY, T, pos, af, none⟩ :: l) e w := v8_shl hx hy (by omega) (by rw [Int.toNat_natCast]; exact h)
theorem v16_shrn {a : BitVec 16} {k' : IntKind} {c : Nat} (hx : ev n e x = .int .u16 (a.toNat : Int)) (hy : ev n e y = .int k' (c : Int)) (h : ow P n l0 K l (upd e d (.int .u16 ((a >>> c).toNat : Int))) w) :
    ow P n l0 K (⟨some d, .binOp .shr TX x y TY, T, pos, af, none⟩ :: l) e w := v16_shr hx hy (by omega) (by rw [Int.toNat_natCast]; exact h)
theorem v16_shln {a : BitVec 16} {k' : IntKind} {c : Nat} (hx : ev n e x = .int .u16 (a.toNat : Int)) (hy : ev n e y = .int k' (c : Int)) (h : ow P n l0 K l (upd e d (.int .u16 ((a <<< c).toNat : Int))) w) :
    ow P n l0 K (⟨some d, .binOp .shl TX x y TY, T, pos, af, none⟩ :: l) e w := v16_shl hx hy (by omega) (by rw [Int.toNat_natCast]; exact h)
theorem v32_shrn {a : BitVec 32} {k' : IntKind} {c : Nat} (hx : ev n e x = .int .u32 (a.toNat : Int)) (hy : ev n e y = .int k' (c : Int)) (h : ow P n l0 K l (upd e d (.int .u32 ((a >>> c).toNat : Int))) w) :
    ow P n l0 K (⟨some d, .binOp .shr TX x y TY, T, pos, af, none⟩ :: l) e w := v32_shr hx hy (by omega) (by rw [Int.toNat_natCast]; exact h)
theorem v32_shln {a : BitVec 32} {k' : IntKind} {c : Nat} (hx : ev n e x = .int .u32 (a.toNat : Int)) (hy : ev n e y = .int k' (c : Int)) (h : ow P n l0 K l (upd e d (.int .u32 ((a <<< c).toNat : Int))) w) :
    ow P n l0 K (⟨some d, .binOp .shl TX x y TY, T, pos, af, none⟩ :: l) e w := v32_shl hx hy (by omega) (by rw [Int.toNat_natCast]; exact h)
theorem v64_shrn {a : BitVec 64} {k' : IntKind} {c : Nat} (hx : ev n e x = .int .u64 (a.toNat : Int)) (hy : ev n e y = .int k' (c : Int)) (h : ow P n l0 K l (upd e d (.int .u64 ((a >>> c).toNat : Int))) w) :
    ow P n l0 K (⟨some d, .binOp .shr TX x y TY, T, pos, af, none⟩ :: l) e w := v64_shr hx hy (by omega) (by rw [Int.toNat_natCast]; exact h)
theorem v64_shln {a : BitVec 64} {k' : IntKind} {c : Nat} (hx : ev n e x = .int .u64 (a.toNat : Int)) (hy : ev n e y = .int k' (c : Int)) (h : ow P n l0 K l (upd e d (.int .u64 ((a <<< c).toNat : Int))) w) :
    ow P n l0 K (⟨some d, .binOp .shl TX x y TY, T, pos, af, none⟩ :: l) e w := v64_shl hx hy (by omega) (by rw [Int.toNat_natCast]; exact h)
theorem v8_rem {a b : BitVec 8} (hx : ev n e x = .int .u8 (a.toNat : Int)) (hy : ev n e y = .int .u8 (b.toNat : Int)) (hb : ¬ b = 0#8) (h : ow P n l0 K l (upd e d (.int .u8 ((a % b).toNat : Int))) w) :
    ow P n l0 K (⟨some d, .binOp .rem TX x y TY, T, pos, af, none⟩ :: l) e w :=
  b_rem hx hy (fun h0 => hb (BitVec.eq_of_toNat_eq (by simpa using h0))) (by
    rw [show (a.toNat : Int).tmod (b.toNat : Int) = ((a % b).toNat : Int) from by rw [BitVec.toNat_umod]; exact (Int.ofNat_tmod a.toNat b.toNat).symm]; exact h)
theorem v8_quo {a b : BitVec 8} (hx : ev n e x = .int .u8 (a.toNat : Int)) (hy : ev n e y = .int .u8 (b.toNat : Int)) (hb : ¬ b = 0#8) (h : ow P n l0 K l (upd e d (.int .u8 ((a / b).toNat : Int))) w) :
    ow P n l0 K (⟨some d, .binOp .quo TX x y TY, T, pos, af, none⟩ :: l) e w :=
  b_quo hx hy (fun h0 => hb (BitVec.eq_of_toNat_eq (by simpa using h0))) (by
    rw [show IntKind.u8.wrap ((a.toNat : Int).tdiv (b.toNat : Int)) = ((a / b).toNat : Int) from by
      rw [show (a.toNat : Int).tdiv (b.toNat : Int) = ((a / b).toNat : Int) from by rw [BitVec.toNat_udiv]; exact (Int.ofNat_tdiv a.toNat b.toNat).symm, wrap_nat_u rfl, BitVec.ofInt_natCast, BitVec.toNat_ofNat]
      exact congrArg Int.ofNat (Nat.mod_eq_of_lt (a / b).isLt)]
    exact h)
theorem v16_rem {a b : BitVec 16} (hx : ev n e x = .int .u16 (a.toNat : Int)) (hy : ev n e y = .int .u16 (b.toNat : Int)) (hb : ¬ b = 0#16) (h : ow P n l0 K l (upd e d (.int .u16 ((a % b).toNat : Int))) w) :
    ow P n l0 K (⟨some d, .binOp .rem TX x y TY, T, pos, af, none⟩ :: l) e w :=
  b_rem hx hy (fun h0 => hb (BitVec.eq_of_toNat_eq (by simpa using h0))) (by
    rw [show (a.toNat : Int).tmod (b.toNat : Int) = ((a % b).toNat : Int) from by rw [BitVec.toNat_umod]; exact (Int.ofNat_tmod a.toNat b.toNat).symm]; exact h)
theorem v16_quo {a b : BitVec 16} (hx : ev n e x = .int .u16 (a.toNat : Int)) (hy : ev n e y = .int .u16 (b.toNat : Int)) (hb : ¬ b = 0#16) (h : ow P n l0 K l (upd e d (.int .u16 ((a / b).toNat : Int))) w) :
    ow P n l0 K (⟨some d, .binOp .quo TX x y TY, T, pos, af, none⟩ :: l) e w :=
  b_quo hx hy (fun h0 => hb (BitVec.eq_of_toNat_eq (by simpa using h0))) (by
    rw [show IntKind.u16.wrap ((a.toNat : Int).tdiv (b.toNat : Int)) = ((a / b).toNat : Int) from by
      rw [show (a.toNat : Int).tdiv (b.toNat : Int) = ((a / b).toNat : Int) from by rw [BitVec.toNat_udiv]; exact (Int.ofNat_tdiv a.toNat b.toNat).symm, wrap_nat_u rfl, BitVec.ofInt_natCast, BitVec.toNat_ofNat]
      exact congrArg Int.ofNat (Nat.mod_eq_of_lt (a / b).isLt)]
    exact h)
theorem v32_rem {a b : BitVec 32} (hx : ev n e x = .int .u32 (a.toNat : Int)) (hy : ev n e y = .int .u32 (b.toNat : Int)) (hb : ¬ b = 0#32) (h : ow P n l0 K l (upd e d (.int .u32 ((a % b).toNat : Int))) w) :
    ow P n l0 K (⟨some d, .binOp .rem TX x y TY, T, pos, af, none⟩ :: l) e w :=
  b_rem hx hy (fun h0 => hb (BitVec.eq_of_toNat_eq (by simpa using h0))) (by
    rw [show (a.toNat : Int).tmod (b.toNat : Int) = ((a % b).toNat : Int) from by rw [BitVec.toNat_umod]; exact (Int.ofNat_tmod a.toNat b.toNat).symm]; exact h)
theorem v32_quo {a b : BitVec 32} (hx : ev n e x = .int .u32 (a.toNat : Int)) (hy : ev n e y = .int .u32 (b.toNat : Int)) (hb : ¬ b = 0#32) (h : ow P n l0 K l (upd e d (.int .u32 ((a / b).toNat : Int))) w) :
    ow P n l0 K (⟨some d, .binOp .quo TX x y TY, T, pos, af, none⟩ :: l) e w :=
  b_quo hx hy (fun h0 => hb (BitVec.eq_of_toNat_eq (by simpa using h0))) (by
    rw [show IntKind.u32.wrap ((a.toNat : Int).tdiv (b.toNat : Int)) = ((a / b).toNat : Int) from by
      rw [show (a.toNat : Int).tdiv (b.toNat : Int) = ((a / b).toNat : Int) from by rw [BitVec.toNat_udiv]; exact (Int.ofNat_tdiv a.toNat b.toNat).symm, wrap_nat_u rfl, BitVec.ofInt_natCast, BitVec.toNat_ofNat]
      exact congrArg Int.ofNat (Nat.mod_eq_of_lt (a / b).isLt)]
    exact h)
theorem v64_rem {a b : BitVec 64} (hx : ev n e x = .int .u64 (a.toNat : Int)) (hy : ev n e y = .int .u64 (b.toNat : Int)) (hb : ¬ b = 0#64) (h : ow P n l0 K l (upd e d (.int .u64 ((a % b).toNat : Int))) w) :
    ow P n l0 K (⟨some d, .binOp .rem TX x y TY, T, pos, af, none⟩ :: l) e w :=
  b_rem hx hy (fun h0 => hb (BitVec.eq_of_toNat_eq (by simpa using h0))) (by
    rw [show (a.toNat : Int).tmod (b.toNat : Int) = ((a % b).toNat : Int) from by rw [BitVec.toNat_umod]; exact (Int.ofNat_tmod a.toNat b.toNat).symm]; exact h)
theorem v64_quo {a b : BitVec 64} (hx : ev n e x = .int .u64 (a.toNat : Int)) (hy : ev n e y = .int .u64 (b.toNat : Int)) (hb : ¬ b = 0#64) (h : ow P n l0 K l (upd e d (.int .u64 ((a / b).toNat : Int))) w) :
    ow P n l0 K (⟨some d, .binOp .quo TX x y TY, T, pos, af, none⟩ :: l) e w :=
  b_quo hx hy (fun h0 => hb (BitVec.eq_of_toNat_eq (by simpa using h0))) (by
    rw [show IntKind.u64.wrap ((a.toNat : Int).tdiv (b.toNat : Int)) = ((a / b).toNat : Int) from by
      rw [show (a.toNat : Int).tdiv (b.toNat : Int) = ((a / b).toNat : Int) from by rw [BitVec.toNat_udiv]; exact (Int.ofNat_tdiv a.toNat b.toNat).symm, wrap_nat_u rfl, BitVec.ofInt_natCast, BitVec.toNat_ofNat]
      exact congrArg Int.ofNat (Nat.mod_eq_of_lt (a / b).isLt)]
    exact h)
end E
end Go.Proofs.YtiapgmfooclpcaaDoor

/- The rules of the operations that look at memory or change it: blocks, slices, append, make. No condition. -/
namespace Go.Proofs.YtiapgmfooclpcaaDoor
open Go.RowKit
set_option linter.unusedVariables false
set_option linter.unusedSimpArgs false
namespace E

/-- block b is a row of cells of its own, none of them frozen -/
def Blk (w : World) (b : Nat) (cs : Array Value) (T : TypeId) : Prop := w.heap[b]? = some (.cells cs T (0, 0))

/-- all blocks but those of the list are as they were -/
structure Keep (S : List Nat) (w w' : World) : Prop where
  os : w'.os = w.os
  tape : w'.tape = w.tape
  output : w'.output = w.output
  size : w.heap.size ≤ w'.heap.size
  block : ∀ k, k < w.heap.size → k ∉ S → w'.heap[k]? = w.heap[k]?

theorem Keep.refl (S : List Nat) (w : World) : Keep S w w := ⟨rfl, rfl, rfl, Nat.le_refl _, fun _ _ _ => rfl⟩
theorem Keep.trans {S S' : List Nat} {w w1 w2 : World} (h : Keep S w w1) (h' : Keep S' w1 w2) (hs : ∀ b, b ∈ S' → b < w.heap.size → b ∈ S) : Keep S w w2 :=
  ⟨h'.os.trans h.os, h'.tape.trans h.tape, h'.output.trans h.output, Nat.le_trans h.size h'.size, fun k hk hn => by
    rw [h'.block k (Nat.lt_of_lt_of_le hk h.size) (fun hm => hn (hs k hm hk)), h.block k hk hn]⟩
theorem Keep.mono {S S' : List Nat} {w w' : World} (h : Keep S w w') (hs : ∀ b, b ∈ S → b ∈ S') : Keep S' w w' :=
  ⟨h.os, h.tape, h.output, h.size, fun k hk hn => h.block k hk (fun hm => hn (hs k hm))⟩
theorem Keep.below {w w' : World} (h : Keep [] w w') : Below w.heap.size w w' := ⟨h.os, h.tape, h.output, h.size, fun k hk => h.block k hk (by simp)⟩
theorem Keep.of_below {w w' : World} (h : Below w.heap.size w w') : Keep [] w w' := ⟨h.os, h.tape, h.output, h.size, fun k hk _ => h.block k hk⟩
theorem Keep.drew {S : List Nat} {w w' : World} (h : Keep S w w') : Keep S w w'.drew := ⟨h.os, h.tape, h.output, h.size, h.block⟩

theorem Blk.lt {w : World} {b : Nat} {cs : Array Value} {T : TypeId} (h : Blk w b cs T) : b < w.heap.size := (Array.getElem?_eq_some_iff.1 h).1
theorem Blk.keep {S : List Nat} {w w' : World} {b : Nat} {cs : Array Value} {T : TypeId} (h : Blk w b cs T) (hk : Keep S w w') (hn : b ∉ S) : Blk w' b cs T := (hk.block b h.lt hn).trans h
theorem Blk.cell {w : World} {b i : Nat} {cs : Array Value} {T : TypeId} (h : Blk w b cs T) : w.cell? ⟨b, i, none⟩ = cs[i]? := cell_of_row w b i cs T (0, 0) h
theorem Blk.inj {w : World} {b : Nat} {cs cs' : Array Value} {T T' : TypeId} (h : Blk w b cs T) (h' : Blk w b cs' T') : cs = cs' := by
  have := h.symm.trans h'
  simp at this
  exact this.1

/-- a slice's cells as they are read -/
def Rd (w : World) (a : Option Addr) (xs : List Value) : Prop := ∀ i v, xs[i]? = some v → ∃ b o, a = some ⟨b, o, none⟩ ∧ w.cell? ⟨b, o + i, none⟩ = some v

/-- no cell of the slice lies in a block of the list -/
def Off (S : List Nat) (a : Option Addr) : Prop := ∀ p, a = some p → p.block ∉ S

theorem Rd.keep {S : List Nat} {w w' : World} {a : Option Addr} {xs : List Value} (h : Rd w a xs) (hk : Keep S w w') (hn : Off S a) : Rd w' a xs := by
  intro i v hv
  obtain ⟨b, o, rfl, hc⟩ := h i v hv
  refine ⟨b, o, rfl, ?_⟩
  rw [← hc]
  exact World.cell?_of_block (hk.block b (World.block_lt_of_cell? w _ hc) (hn _ rfl))
theorem Off.nil (a : Option Addr) : Off [] a := fun _ _ => by simp
theorem Rd.new {w w' : World} {a : Option Addr} {xs : List Value} (h : Rd w a xs) (hk : Keep [] w w') : Rd w' a xs := h.keep hk (Off.nil a)
theorem Rd.nil (w : World) (a : Option Addr) : Rd w a [] := fun i v hv => by simp at hv
theorem Rd.at {w : World} {a : Option Addr} {xs : List Value} (h : Rd w a xs) (i : Nat) (hi : i < xs.length) : ∃ b o, a = some ⟨b, o, none⟩ ∧ w.cell? ⟨b, o + i, none⟩ = some xs[i] := h i _ (List.getElem?_eq_getElem hi)
theorem Rd.lt {w : World} {a : Option Addr} {xs : List Value} (h : Rd w a xs) (hx : 0 < xs.length) : ∃ p, a = some p ∧ p.block < w.heap.size := by
  obtain ⟨b, o, rfl, hc⟩ := h.at 0 hx
  exact ⟨_, rfl, World.block_lt_of_cell? w _ hc⟩

theorem Blk.rd {w : World} {b : Nat} {cs : Array Value} {T : TypeId} (h : Blk w b cs T) : Rd w (some ⟨b, 0, none⟩) cs.toList := by
  intro i v hv
  exact ⟨b, 0, rfl, by rw [Nat.zero_add, h.cell]; simpa using hv⟩
theorem Keep.tr {w w1 w2 : World} (h : Keep [] w w1) (h' : Keep [] w1 w2) : Keep [] w w2 := h.trans h' (by simp)
/-- a block that is new since is turned -/
theorem Keep.tr1 {w w1 w2 : World} {g : Nat} (h : Keep [] w w1) (h' : Keep [g] w1 w2) (hg : w.heap.size ≤ g) : Keep [] w w2 := h.trans h' (by intro b hb hl; simp at hb; omega)

theorem Rd.cellK {w w' : World} {b o i : Nat} {xs : List Value} {v : Value} (h : Rd w (some ⟨b, o, none⟩) xs) (hk : Keep [] w w') (hi : xs[i]? = some v) : w'.cell? ⟨b, o + i, none⟩ = some v := by
  obtain ⟨b', o', he, hc⟩ := (h.new hk) i v hi
  simp at he
  obtain ⟨rfl, rfl⟩ := he
  exact hc

/-- a slice that owns its block -/
def Sl (w : World) (E : TypeId) (sz : Nat) (a : Option Addr) (m c : Nat) (xs : List Value) : Prop :=
  xs.length = m * sz ∧ ((a = none ∧ m = 0 ∧ c = 0) ∨ ∃ g cur, a = some ⟨g, 0, none⟩ ∧ Blk w g cur E ∧ m ≤ c ∧ c ≤ maxLen ∧ cur.size = c * sz ∧ cur.toList.take (m * sz) = xs)

def blkOf : Option Addr → List Nat
  | some p => [p.block]
  | none => []

theorem Sl.nil (w : World) (E : TypeId) (sz : Nat) : Sl w E sz none 0 0 [] := ⟨by simp, .inl ⟨rfl, rfl, rfl⟩⟩
theorem Sl.rd {w : World} {E : TypeId} {sz : Nat} {a : Option Addr} {m c : Nat} {xs : List Value} (h : Sl w E sz a m c xs) : Rd w a xs := by
  intro i v hv
  rcases h.2 with ⟨rfl, rfl, rfl⟩ | ⟨g, cur, rfl, hb, h1, h2, h3, rfl⟩
  · have := h.1
    simp at this
    subst this
    simp at hv
  · refine ⟨g, 0, rfl, ?_⟩
    rw [Nat.zero_add, hb.cell]
    rw [List.getElem?_take] at hv
    split at hv
    · simpa using hv
    · cases hv
theorem Sl.keep {S : List Nat} {w w' : World} {E : TypeId} {sz : Nat} {a : Option Addr} {m c : Nat} {xs : List Value} (h : Sl w E sz a m c xs) (hk : Keep S w w') (hn : Off S a) : Sl w' E sz a m c xs := by
  refine ⟨h.1, ?_⟩
  rcases h.2 with h2 | ⟨g, cur, rfl, hb, h1⟩
  · exact .inl h2
  · exact .inr ⟨g, cur, rfl, hb.keep hk (hn _ rfl), h1⟩
theorem Sl.new {w w' : World} {E : TypeId} {sz : Nat} {a : Option Addr} {m c : Nat} {xs : List Value} (h : Sl w E sz a m c xs) (hk : Keep [] w w') : Sl w' E sz a m c xs := h.keep hk (Off.nil a)
theorem Sl.le {w : World} {E : TypeId} {sz : Nat} {a : Option Addr} {m c : Nat} {xs : List Value} (h : Sl w E sz a m c xs) : m ≤ c := by
  rcases h.2 with ⟨rfl, rfl, rfl⟩ | ⟨g, cur, rfl, hb, h1, _⟩
  · exact Nat.le_refl _
  · exact h1
theorem Sl.lt {w : World} {E : TypeId} {sz : Nat} {a : Option Addr} {m c : Nat} {xs : List Value} (h : Sl w E sz a m c xs) : ∀ p, a = some p → p.block < w.heap.size := by
  rintro p rfl
  rcases h.2 with ⟨h0, _⟩ | ⟨g, cur, h0, hb, _⟩
  · cases h0
  · cases h0; exact hb.lt

/-- of a type that is no struct and no array -/
def aggB (P : Program) (t : TypeId) : Bool :=
  match P.underlying t with
  | some (.struct _) | some (.array _ _) | none => true
  | _ => false
def fldOff (P : Program) (s : TypeId) (f : Nat) : Option Nat :=
  match P.underlying s with
  | some (.struct fs) => match fs[f]? with
    | some fl => match P.info? fl.type with
      | some i => bif Nat.beq i.size 0 then none else some fl.offset
      | none => none
    | none => none
  | _ => none
/-- a type's number of cells -/
def szB (P : Program) (t : TypeId) (k : Nat) : Bool := match P.info? t with | some i => Nat.beq i.size k | none => false
/-- a type's cells, bytes and nought -/
def infB (P : Program) (t : TypeId) (sz bytes : Nat) (z : Value) : Prop := ∃ i, P.info? t = some i ∧ i.size = sz ∧ i.bytes = bytes ∧ i.zero = some z

variable {P : Program} {n : Nat} {e : Env} {w : World} {l0 l : List Oper} {K : Env → World → Prop} {d : Nat} {T : TypeId} {pos : String} {af : Array Edge} {op : Op} {x y : Operand} {TX TY : TypeId}

theorem run_isAgg {t : TypeId} (h : aggB P t = false) : (isAgg t).run P w = .ok false w := by
  unfold aggB at h
  cases hu : P.underlying t with
  | none => rw [hu] at h; cases h
  | some dd => rw [hu] at h; cases dd <;> simp at h <;> simp [isAgg, run_underlying hu]
theorem run_sizeOf {t : TypeId} {k : Nat} (h : szB P t k = true) : (sizeOf t).run P w = .ok k w := by
  unfold szB at h
  cases hu : P.info? t with
  | none => rw [hu] at h; cases h
  | some i => rw [hu] at h; simp [sizeOf, typeInfo, hu]; exact Nat.eq_of_beq_eq_true h

theorem o_nilc {p : Addr} (hx : ev n e x = .pointer (some p)) (h : ow P n l0 K l (upd e d (.pointer (some p))) w) :
    ow P n l0 K (⟨some d, .nilCheck x, T, pos, af, none⟩ :: l) e w := by
  refine o_run (v := .pointer (some p)) (w' := w) ?_ h
  simp [execOp, hx]

/-- a cell is read -/
theorem o_ld {t : TypeId} {p : Addr} {v : Value} (hx : ev n e x = .pointer (some p)) (ht : aggB P t = false) (hc : w.cell? p = some v) (h : ow P n l0 K l (upd e d v) w) :
    ow P n l0 K (⟨some d, .load t x, T, pos, af, none⟩ :: l) e w := by
  refine o_run (v := v) (w' := w) ?_ h
  simp [execOp, hx, Instr.loadAt, Instr.sureAddr, loadVar, run_isAgg ht, hc]

/-- a cell of a block of its own is written -/
theorem o_st {t S : TypeId} {b i : Nat} {v : Value} {cs : Array Value} (hx : ev n e x = .pointer (some ⟨b, i, none⟩)) (hy : ev n e y = v) (hv : v.oneCell' = true) (ht : szB P t 1 = true) (hb : Blk w b cs S) (hi : i < cs.size)
    (h : ∀ w', Blk w' b (cs.setIfInBounds i v) S → Keep [b] w w' → w'.heap.size = w.heap.size → ow P n l0 K l e w') :
    ow P n l0 K (⟨none, .store t x y, T, pos, af, none⟩ :: l) e w := by
  refine o_runs (w' := w.setCell ⟨b, i, none⟩ v) ?_ (h _ (heap_setCell_same w b i cs S v hb) ⟨rfl, rfl, rfl, by simp, fun k _ hk => heap_setCell_other w _ k v (by simpa using hk)⟩ (by simp))
  have hc : w.cell? ⟨b, i, none⟩ = some cs[i] := by rw [hb.cell]; simp [hi]
  have hf := frozen_of_row w b i cs S hb
  have hs : v.cells = #[v] := by cases v <;> simp [Value.oneCell'] at hv <;> rfl
  have hst := run_store P w ⟨b, i, none⟩ v .plain hv
  simp [execOp, hx, hy, Instr.storeAt, Instr.sureAddr, storeVar, run_sizeOf ht, hs, storeCells, Addr.add, hst, hc, hf]

theorem run_newVar {t : TypeId} {v : Value} : (newVar t v).run P w = .ok ⟨w.heap.size, 0, none⟩ (w.alloc (.cells v.cells t)) := by
  simp [newVar, newRow]

theorem keep_alloc (S : List Nat) (w : World) (o : Obj) : Keep S w (w.alloc o) := ⟨rfl, rfl, rfl, by simp, fun k hk _ => Below.heap_alloc w o k hk⟩

/-- a value is laid into a new block -/
theorem o_box {t : TypeId} {v : Value} {cs : Array Value} (hx : ev n e x = v) (hc : v.cells = cs)
    (h : ∀ b w', Blk w' b cs t → Keep [] w w' → w.heap.size = b → w'.heap.size = b + 1 → ow P n l0 K l (upd e d (.pointer (some ⟨b, 0, none⟩))) w') :
    ow P n l0 K (⟨some d, .box t x, T, pos, af, none⟩ :: l) e w := by
  subst hc
  refine o_run (v := .pointer (some ⟨w.heap.size, 0, none⟩)) (w' := w.alloc (.cells v.cells t)) ?_ (h _ _ (heap_alloc_new w _) (keep_alloc _ _ _) rfl (by simp))
  simp [execOp, hx, Instr.box, run_newVar]

theorem o_alloc {t : TypeId} {z : Value} {cs : Array Value} {sz bytes : Nat} (hz : infB P t sz bytes z) (hc : z.cells = cs)
    (h : ∀ b w', Blk w' b cs t → Keep [] w w' → w.heap.size = b → w'.heap.size = b + 1 → ow P n l0 K l (upd e d (.pointer (some ⟨b, 0, none⟩))) w') :
    ow P n l0 K (⟨some d, .alloc t, T, pos, af, none⟩ :: l) e w := by
  obtain ⟨i, h1, h2, h3, h4⟩ := hz
  subst hc
  refine o_run (v := .pointer (some ⟨w.heap.size, 0, none⟩)) (w' := w.alloc (.cells z.cells t)) ?_ (h _ _ (heap_alloc_new w _) (keep_alloc _ _ _) rfl (by simp))
  simp [execOp, Instr.alloc, zeroValue, typeInfo, h1, h4, run_newVar]

/-- a struct or an array out of its parts: what it comes to is a closed fact, asked for every world -/
theorem o_build {t : TypeId} {ps : List (Nat × Operand)} {v : Value} {vs : List (Nat × Value)} (hv : ps.map (fun p => (p.1, ev n e p.2)) = vs) (hr : ∀ w, (Instr.build t vs.toArray).run P w = .ok v w) (h : ow P n l0 K l (upd e d v) w) :
    ow P n l0 K (⟨some d, .build t ps.toArray, T, pos, af, none⟩ :: l) e w := by
  refine o_run (v := v) (w' := w) ?_ h
  have : (ps.toArray.map fun x => (x.1, ev n e x.2)) = vs.toArray := by simp [← hv]
  simp only [execOp]
  have hh : (Array.map (fun x : Nat × Operand => match x with | (i, x) => (i, ev n e x)) ps.toArray) = vs.toArray := by rw [← this]
  rw [hh]
  simp [hr w]

theorem run_fieldAt {s : TypeId} {b o f off : Nat} (hf : fldOff P s f = some off) : (Instr.fieldAt s (.pointer (some ⟨b, o, none⟩)) f).run P w = .ok (.pointer (some ⟨b, o + off, none⟩)) w := by
  unfold fldOff at hf
  cases hu : P.underlying s with
  | none => rw [hu] at hf; cases hf
  | some dd =>
    rw [hu] at hf
    cases dd <;> simp at hf
    rename_i fs
    cases hfs : fs[f]? with
    | none => rw [hfs] at hf; cases hf
    | some fl =>
      rw [hfs] at hf
      simp only at hf
      cases hi : P.info? fl.type with
      | none => rw [hi] at hf; cases hf
      | some i =>
        rw [hi] at hf
        simp only at hf
        cases hb : Nat.beq i.size 0 with
        | true => rw [hb] at hf; cases hf
        | false =>
          rw [hb] at hf
          simp at hf
          have hne : ¬ i.size = 0 := Nat.ne_of_beq_eq_false hb
          subst hf
          have hadd : Addr.add ⟨b, o, none⟩ fl.offset = ⟨b, o + fl.offset, none⟩ := Addr.add_lit b o fl.offset
          simp [Instr.fieldAt, run_underlying hu, hfs, Instr.sureAddr, fieldPlace, sizeOf, typeInfo, hi, hne, hadd]

theorem o_fld {s : TypeId} {b o f off : Nat} (hx : ev n e x = .pointer (some ⟨b, o, none⟩)) (hf : fldOff P s f = some off) (h : ow P n l0 K l (upd e d (.pointer (some ⟨b, o + off, none⟩))) w) :
    ow P n l0 K (⟨some d, .fieldAddr s x f, T, pos, af, none⟩ :: l) e w := by
  refine o_run (v := .pointer (some ⟨b, o + off, none⟩)) (w' := w) ?_ h
  simp [execOp, hx, run_fieldAt hf]

theorem o_fld0 {s : TypeId} {b o f : Nat} (hx : ev n e x = .pointer (some ⟨b, o, none⟩)) (hf : fldOff P s f = some 0) (h : ow P n l0 K l (upd e d (.pointer (some ⟨b, o, none⟩))) w) :
    ow P n l0 K (⟨some d, .fieldAddr s x f, T, pos, af, none⟩ :: l) e w := o_fld hx hf (by rw [Nat.add_zero]; exact h)

/-- an array's element's place -/
theorem o_ixa {E : TypeId} {len sz b o m : Nat} {k : IntKind} (hu : P.underlying TX = some (.array len E)) (hs : szB P E sz = true) (hx : ev n e x = .pointer (some ⟨b, o, none⟩)) (hi : ev n e y = .int k (m : Int)) (hm : m < len)
    (h : ow P n l0 K l (upd e d (.pointer (some ⟨b, o + m * sz, none⟩))) w) : ow P n l0 K (⟨some d, .indexAddr TX x y, T, pos, af, none⟩ :: l) e w := by
  refine o_run (v := .pointer (some ⟨b, o + m * sz, none⟩)) (w' := w) ?_ h
  have hadd : Addr.add ⟨b, o, none⟩ (m * sz) = ⟨b, o + m * sz, none⟩ := Addr.add_lit b o _
  have h1 : (0 : Int) ≤ (m : Int) := by omega
  have h2 : (m : Int) < (len : Int) := by omega
  simp [execOp, hx, hi, Instr.indexAt, asIntOf, run_underlying hu, Instr.sureAddr, h1, h2, hm, run_sizeOf hs, hadd]

/-- a slice's element's place -/
theorem o_ixs {E : TypeId} {len cap sz b o m : Nat} {k : IntKind} (hu : P.underlying TX = some (.slice E)) (hs : szB P E sz = true) (hx : ev n e x = .slice (some ⟨b, o, none⟩) len cap) (hi : ev n e y = .int k (m : Int)) (hm : m < len)
    (h : ow P n l0 K l (upd e d (.pointer (some ⟨b, o + m * sz, none⟩))) w) : ow P n l0 K (⟨some d, .indexAddr TX x y, T, pos, af, none⟩ :: l) e w := by
  refine o_run (v := .pointer (some ⟨b, o + m * sz, none⟩)) (w' := w) ?_ h
  have hadd : Addr.add ⟨b, o, none⟩ (m * sz) = ⟨b, o + m * sz, none⟩ := Addr.add_lit b o _
  have h1 : (0 : Int) ≤ (m : Int) := by omega
  have h2 : (m : Int) < (len : Int) := by omega
  simp [execOp, hx, hi, Instr.indexAt, asIntOf, run_underlying hu, Instr.sureAddr, h1, h2, hm, run_sizeOf hs, hadd]

/-- the same for elements of one cell -/
theorem o_ixs1 {E : TypeId} {len cap b o m : Nat} {k : IntKind} (hu : P.underlying TX = some (.slice E)) (hs : szB P E 1 = true) (hx : ev n e x = .slice (some ⟨b, o, none⟩) len cap) (hi : ev n e y = .int k (m : Int)) (hm : m < len)
    (h : ow P n l0 K l (upd e d (.pointer (some ⟨b, o + m, none⟩))) w) : ow P n l0 K (⟨some d, .indexAddr TX x y, T, pos, af, none⟩ :: l) e w :=
  o_ixs hu hs hx hi hm (by rw [Nat.mul_one]; exact h)
theorem o_ixa1 {E : TypeId} {len b o m : Nat} {k : IntKind} (hu : P.underlying TX = some (.array len E)) (hs : szB P E 1 = true) (hx : ev n e x = .pointer (some ⟨b, o, none⟩)) (hi : ev n e y = .int k (m : Int)) (hm : m < len)
    (h : ow P n l0 K l (upd e d (.pointer (some ⟨b, o + m, none⟩))) w) : ow P n l0 K (⟨some d, .indexAddr TX x y, T, pos, af, none⟩ :: l) e w :=
  o_ixa hu hs hx hi hm (by rw [Nat.mul_one]; exact h)

/-- len of a slice -/
theorem o_lens {E : TypeId} {a : Option Addr} {len cap : Nat} (hu : P.underlying TX = some (.slice E)) (hx : ev n e x = .slice a len cap) (h : ow P n l0 K l (upd e d (.int .i64 (len : Int))) w) :
    ow P n l0 K (⟨some d, .call ⟨.builtin .len, #[x], #[TX]⟩, T, pos, af, none⟩ :: l) e w := by
  refine o_run (v := .int .i64 (len : Int)) (w' := w) ?_ h
  simp [execOp, resolve, invoke, builtin, hx, Builtin.len_, run_underlying hu, goInt]
theorem o_lenstr {s : ByteArray} (hu : P.underlying TX = some .string) (hx : ev n e x = .string s) (h : ow P n l0 K l (upd e d (.int .i64 (s.size : Int))) w) :
    ow P n l0 K (⟨some d, .call ⟨.builtin .len, #[x], #[TX]⟩, T, pos, af, none⟩ :: l) e w := by
  refine o_run (v := .int .i64 (s.size : Int)) (w' := w) ?_ h
  simp [execOp, resolve, invoke, builtin, hx, Builtin.len_, run_underlying hu, goInt]
/-- min, max of two integers -/
theorem o_min {k : IntKind} {a b : Int} {ts : Array TypeId} (hx : ev n e x = .int k a) (hy : ev n e y = .int k b) (h : ow P n l0 K l (upd e d (.int k (if b < a then b else a))) w) :
    ow P n l0 K (⟨some d, .call ⟨.builtin .min, #[x, y], ts⟩, T, pos, af, none⟩ :: l) e w := by
  refine o_run (v := .int k (if b < a then b else a)) (w' := w) ?_ h
  simp [execOp, resolve, invoke, builtin, hx, hy, Builtin.min_, Builtin.min2]
theorem o_extr {vs : List Value} {i : Nat} {v : Value} (hx : ev n e x = .tuple vs.toArray) (hv : vs[i]? = some v) (h : ow P n l0 K l (upd e d v) w) :
    ow P n l0 K (⟨some d, .extract x i, T, pos, af, none⟩ :: l) e w := by
  refine o_run (v := v) (w' := w) ?_ h
  simp [execOp, hx, Instr.extract, hv]

/-- where a piece of a slice begins -/
def cutAt (a : Option Addr) (lo cap sz : Nat) : Option Addr := if cap = lo then a else a.map (·.add (lo * sz))

theorem cutAt_rd {w : World} {a : Option Addr} {xs : List Value} {lo cap sz : Nat} (h : Rd w a xs) (hl : lo * sz ≤ xs.length) (hc : lo ≤ cap) (hx : xs.length ≤ cap * sz) : Rd w (cutAt a lo cap sz) (xs.drop (lo * sz)) := by
  intro i v hv
  rw [List.getElem?_drop] at hv
  obtain ⟨b, o, rfl, hcell⟩ := h _ _ hv
  unfold cutAt
  by_cases hh : cap = lo
  · have := (List.getElem?_eq_some_iff.1 hv).1
    subst hh
    omega
  · refine ⟨b, o + lo * sz, ?_, by rw [Nat.add_assoc]; exact hcell⟩
    rw [if_neg hh]
    simp [Addr.add_lit]
theorem Rd.take {w : World} {a : Option Addr} {xs : List Value} (h : Rd w a xs) (k : Nat) : Rd w a (xs.take k) := by
  intro i v hv
  rw [List.getElem?_take] at hv
  split at hv
  · exact h i v hv
  · cases hv
theorem cutAt_off {S : List Nat} {a : Option Addr} {lo cap sz : Nat} (h : Off S a) : Off S (cutAt a lo cap sz) := by
  intro p hp
  unfold cutAt at hp
  split at hp
  · exact h p hp
  · cases a with
    | none => cases hp
    | some q =>
      simp at hp
      subst hp
      have := h q rfl
      unfold Addr.add
      split <;> exact this

theorem run_sl {E : TypeId} {sz : Nat} (hu : P.underlying TX = some (.slice E)) (hs : szB P E sz = true) (a : Option Addr) (len cap lo hi : Nat) (h1 : lo ≤ hi) (h2 : hi ≤ cap) (k k' : IntKind) :
    (Instr.sliceAt TX (.slice a len cap) (some (.int k (lo : Int))) (some (.int k' (hi : Int))) none).run P w = .ok (.slice (cutAt a lo cap sz) (hi - lo) (cap - lo)) w := by
  simp [Instr.sliceAt, Instr.slice, run_underlying hu, Instr.sliceBounds, Instr.sliceBound, asIntOf, run_sizeOf hs, cutAt, h1, h2]

/-- s[lo:hi] -/
theorem o_sllh {E : TypeId} {a : Option Addr} {len cap lo hi sz : Nat} {k k' : IntKind} {u v : Operand} (hu : P.underlying TX = some (.slice E)) (hs : szB P E sz = true) (hx : ev n e x = .slice a len cap) (hl : ev n e u = .int k (lo : Int)) (hh : ev n e v = .int k' (hi : Int)) (h1 : lo ≤ hi) (h2 : hi ≤ cap)
    (h : ow P n l0 K l (upd e d (.slice (cutAt a lo cap sz) (hi - lo) (cap - lo))) w) : ow P n l0 K (⟨some d, .slice TX x (some u) (some v) none, T, pos, af, none⟩ :: l) e w := by
  refine o_run (v := .slice (cutAt a lo cap sz) (hi - lo) (cap - lo)) (w' := w) ?_ h
  simp [execOp, hx, hl, hh, run_sl hu hs a len cap lo hi h1 h2]
/-- s[lo:] -/
theorem o_sll {E : TypeId} {a : Option Addr} {len cap lo sz : Nat} {k : IntKind} {u : Operand} (hu : P.underlying TX = some (.slice E)) (hs : szB P E sz = true) (hx : ev n e x = .slice a len cap) (hl : ev n e u = .int k (lo : Int)) (h1 : lo ≤ len)
    (h : ow P n l0 K l (upd e d (.slice (cutAt a lo cap sz) (len - lo) (cap - lo))) w) : ow P n l0 K (⟨some d, .slice TX x (some u) none none, T, pos, af, none⟩ :: l) e w := by
  refine o_run (v := .slice (cutAt a lo cap sz) (len - lo) (cap - lo)) (w' := w) ?_ h
  simp [execOp, hx, hl, Instr.sliceAt, Instr.slice, run_underlying hu, Instr.sliceBounds, Instr.sliceBound, asIntOf, run_sizeOf hs, cutAt, h1]
/-- s[:hi] -/
theorem o_slh {E : TypeId} {a : Option Addr} {len cap hi sz : Nat} {k : IntKind} {v : Operand} (hu : P.underlying TX = some (.slice E)) (hs : szB P E sz = true) (hx : ev n e x = .slice a len cap) (hh : ev n e v = .int k (hi : Int)) (h2 : hi ≤ cap)
    (h : ow P n l0 K l (upd e d (.slice a hi cap)) w) : ow P n l0 K (⟨some d, .slice TX x none (some v) none, T, pos, af, none⟩ :: l) e w := by
  refine o_run (v := .slice a hi cap) (w' := w) ?_ h
  have ha : (if cap = 0 then a else Option.map (fun x => Addr.add x 0) a) = a := by
    split
    · rfl
    · cases a <;> simp [Addr.add]
  simp [execOp, hx, hh, Instr.sliceAt, Instr.slice, run_underlying hu, Instr.sliceBounds, Instr.sliceBound, asIntOf, run_sizeOf hs, h2, ha]

/-! ### append -/
theorem run_append {E : TypeId} {sz bytes : Nat} {z : Value} (hu : P.underlying TX = some (.slice E)) (hi : infB P E sz bytes z) (hzs : z.cells.size = sz) (hsz : 0 < sz)
    {a : Option Addr} {m c : Nat} {xs : List Value} (ho : Sl w E sz a m c xs) {a' : Option Addr} {m' c' : Nat} {news : List Value} (hr : Rd w a' news) (hl : news.length = m' * sz) (h1 : ∀ u ∈ news, u.oneCell' = true)
    (h63 : m + m' ≤ maxLen) (hby : (m + m') * bytes ≤ 140737488355328) :
    ∃ a2 c2 w', (Builtin.append_ #[TX, TX] T #[.slice a m c, .slice a' m' c']).run P w = .ok (.slice a2 (m + m') c2) w' ∧ Sl w' E sz a2 (m + m') c2 (xs ++ news) ∧ Keep (blkOf a) w w' ∧
      ((a2 = a ∧ w'.heap.size = w.heap.size) ∨ (∃ g, a2 = some ⟨g, 0, none⟩ ∧ w.heap.size = g ∧ w'.heap.size = g + 1)) := by
  obtain ⟨i, hi1, rfl, rfl, hz⟩ := hi
  have hlen : (xs ++ news).length = (m + m') * i.size := by rw [List.length_append, ho.1, hl, Nat.add_mul]
  have hsmall : m + m' ≤ 9223372036854775807 := by simp only [maxLen] at h63; omega
  have hge := fun old => grownCap_ge w (m + m') old E
  have hcm := fun old => grownCap_le_maxLen w (m + m') old E h63
  have grown : ∀ old, Sl (w.drew.alloc (.cells (xs.toArray ++ news.toArray ++ Builtin.zeroCells z.cells (grownCap w (m + m') old E - (m + m'))) E)) E i.size (some ⟨w.heap.size, 0, none⟩) (m + m') (grownCap w (m + m') old E) (xs ++ news) := by
    intro old
    refine ⟨hlen, .inr ⟨w.heap.size, _, rfl, heap_alloc_new w.drew _, hge old, hcm old, ?_, ?_⟩⟩
    · simp only [Array.size_append, List.size_toArray, size_zeroCells, hzs, ho.1, hl, ← Nat.add_mul]
      congr 1
      have := hge old
      omega
    · simp only [Array.toList_append, List.append_assoc]
      rw [← List.append_assoc, ← hlen]
      exact List.take_left
  have kgrown : ∀ o, Keep (blkOf a) w (w.drew.alloc o) := fun o => ⟨rfl, rfl, rfl, by simp, fun k hk _ => Below.heap_alloc w.drew o k hk⟩
  by_cases hm' : m' = 0
  · -- nothing is appended
    subst hm'
    have hn : news = [] := List.eq_nil_of_length_eq_zero (by simpa using hl)
    subst hn
    refine ⟨a, c, w, ?_, by simpa using ho, Keep.refl _ _, .inl ⟨rfl, rfl⟩⟩
    have hle := ho.le
    cases a' with
    | none => cases a <;> simp [Builtin.append_, run_underlying hu, sizeOf, typeInfo, hi1, Builtin.lenOf, Builtin.firstCells, hle, storeCells]
    | some p => cases a <;> simp [Builtin.append_, run_underlying hu, sizeOf, typeInfo, hi1, Builtin.lenOf, Builtin.firstCells, hle, storeCells, loadCells, loadCellsFrom]
  · have hpos : 0 < news.length := by rw [hl]; exact Nat.mul_pos (Nat.pos_of_ne_zero hm') hsz
    obtain ⟨b', o', rfl, _⟩ := hr.at 0 hpos
    have hnews : ∀ j u, news[j]? = some u → w.cell? ((⟨b', o', none⟩ : Addr).add j) = some u := by
      intro j u hj
      obtain ⟨b2, o2, he, hc⟩ := hr j u hj
      simp at he
      obtain ⟨rfl, rfl⟩ := he
      rw [Addr.add_lit]
      exact hc
    rcases ho.2 with ⟨rfl, rfl, rfl⟩ | ⟨g, cur, rfl, hb, hle, hcap, hcs, htake⟩
    · have hx : xs = [] := List.eq_nil_of_length_eq_zero (by simpa using ho.1)
      subst hx
      have hr' := run_append_nil (P := P) w TX T E i z hu hi1 hz ⟨b', o', none⟩ m' c' news hl hnews (by omega) (by omega) (by have hb := hby; simp only [Nat.zero_add] at hb; omega)
      have hgr := grown 0
      simp only [Nat.zero_add, List.nil_append, Array.empty_append] at hgr ⊢
      exact ⟨_, _, _, hr', hgr, kgrown _, .inr ⟨_, rfl, rfl, by simp⟩⟩
    · by_cases hroom : m + m' ≤ c
      · have hfit : m * i.size + news.length ≤ cur.size := by rw [hl, hcs, ← Nat.add_mul]; exact Nat.mul_le_mul_right _ hroom
        have hr' := run_append_room (P := P) w TX T E i hu hi1 g m c cur hb ⟨b', o', none⟩ m' c' news hl hnews h1 hroom hfit
        refine ⟨_, _, _, hr', ⟨hlen, .inr ⟨g, _, rfl, setRow_heap w g cur _ E _ hb, hroom, hcap, ?_, ?_⟩⟩, ⟨rfl, rfl, rfl, by simp, fun k _ hk => setRow_other w g k _ (by simpa [blkOf] using hk)⟩, .inl ⟨rfl, by simp⟩⟩
        · simp only [List.size_toArray, List.length_append, List.length_take, List.length_drop, Array.length_toList]
          omega
        · rw [htake, ← hlen]
          exact List.take_left
      · have holds : ∀ j u, xs[j]? = some u → w.cell? ((⟨g, 0, none⟩ : Addr).add j) = some u := by
          intro j u hj
          obtain ⟨b2, o2, he, hc⟩ := ho.rd j u hj
          simp at he
          obtain ⟨rfl, rfl⟩ := he
          rw [Addr.add_lit]
          exact hc
        have hr' := run_append_grow (P := P) w TX T E i z hu hi1 hz ⟨g, 0, none⟩ m c xs ho.1 holds ⟨b', o', none⟩ m' c' news hl hnews (by omega) (by omega) (growslice_fits (by omega) hby)
        exact ⟨_, _, _, hr', grown c, kgrown _, .inr ⟨_, rfl, rfl, by simp⟩⟩

/-- append(s, x...) on a slice that owns its block -/
theorem o_app {E : TypeId} {sz bytes : Nat} {z : Value} (hu : P.underlying TX = some (.slice E)) (hi : infB P E sz bytes z) (hzs : z.cells.size = sz) (hsz : 0 < sz)
    {a : Option Addr} {m c : Nat} {xs : List Value} {a' : Option Addr} {m' c' : Nat} {news : List Value} (hx : ev n e x = .slice a m c) (hy : ev n e y = .slice a' m' c')
    (ho : Sl w E sz a m c xs) (hr : Rd w a' news) (hl : news.length = m' * sz) (h1 : ∀ u ∈ news, u.oneCell' = true)
    (h63 : m + m' ≤ maxLen) (hby : (m + m') * bytes ≤ 140737488355328)
    (h : ∀ a2 c2 w', Sl w' E sz a2 (m + m') c2 (xs ++ news) → Keep (blkOf a) w w' → ((a2 = a ∧ w'.heap.size = w.heap.size) ∨ (∃ g, a2 = some ⟨g, 0, none⟩ ∧ w.heap.size = g ∧ w'.heap.size = g + 1)) → ow P n l0 K l (upd e d (.slice a2 (m + m') c2)) w') :
    ow P n l0 K (⟨some d, .call ⟨.builtin .append, #[x, y], #[TX, TX]⟩, T, pos, af, none⟩ :: l) e w := by
  obtain ⟨a2, c2, w', hrun, hs, hk, hv⟩ := run_append (P := P) (T := T) hu hi hzs hsz ho hr (c' := c') hl h1 h63 hby
  refine o_run (v := .slice a2 (m + m') c2) (w' := w') ?_ (h a2 c2 w' hs hk hv)
  simp [execOp, resolve, invoke, builtin, hx, hy, hrun]

/-- make([]T, len, cap) with len = cap -/
theorem o_make {E : TypeId} {sz bytes : Nat} {z : Value} {k k' : IntKind} {m : Nat} (hu : P.underlying TX = some (.slice E)) (hi : infB P E sz bytes z) (hx : ev n e x = .int k (m : Int)) (hy : ev n e y = .int k' (m : Int))
    (h63 : m ≤ maxLen) (hby : bytes * m ≤ 281474976710656)
    (h : ∀ g w', Sl w' E sz (some ⟨g, 0, none⟩) m m (madeCells z.cells (m * sz)).toList → Keep [] w w' → w.heap.size = g → w'.heap.size = g + 1 → ow P n l0 K l (upd e d (.slice (some ⟨g, 0, none⟩) m m)) w') :
    ow P n l0 K (⟨some d, .makeSlice TX x y, T, pos, af, none⟩ :: l) e w := by
  obtain ⟨i, hi1, rfl, rfl, hz⟩ := hi
  have h63' : (m : Int) ≤ 9223372036854775807 := by simp [maxLen] at h63; omega
  have hb' : (i.bytes : Int) * (m : Int) ≤ 281474976710656 := by
    have h : ((i.bytes * m : Nat) : Int) ≤ 281474976710656 := by omega
    rwa [Int.natCast_mul] at h
  have hr := run_make (P := P) w TX E i z hu hi1 hz k k' m m (by omega) (Int.le_refl _) hb' h63'
  simp only [Int.toNat_natCast] at hr
  refine o_run (v := .slice (some ⟨w.heap.size, 0, none⟩) m m) (w' := w.alloc (.cells (madeCells z.cells (m * i.size)) E)) ?_ (h _ _ ⟨?_, .inr ⟨_, _, rfl, heap_alloc_new w _, Nat.le_refl _, h63, size_madeCells _ _, ?_⟩⟩ (keep_alloc _ _ _) rfl (by simp))
  · simp [execOp, hx, hy, hr]
  · simp [size_madeCells]
  · rw [List.take_of_length_le (by simp [size_madeCells])]

/-- []T{..}: a new row whose cells are a closed fact of the parts -/
theorem o_bsl {t E : TypeId} {len : Nat} {ps : List (Nat × Operand)} {vs : List (Nat × Value)} {cs : Array Value} (hv : ps.map (fun p => (p.1, ev n e p.2)) = vs)
    (hr : ∀ w, (Instr.buildSlice t len vs.toArray).run P w = .ok (.slice (some ⟨w.heap.size, 0, none⟩) len len) (w.alloc (.cells cs E)))
    (h : ∀ g w', Blk w' g cs E → Keep [] w w' → w.heap.size = g → w'.heap.size = g + 1 → ow P n l0 K l (upd e d (.slice (some ⟨g, 0, none⟩) len len)) w') :
    ow P n l0 K (⟨some d, .buildSlice t len ps.toArray, T, pos, af, none⟩ :: l) e w := by
  refine o_run (v := .slice (some ⟨w.heap.size, 0, none⟩) len len) (w' := w.alloc (.cells cs E)) ?_ (h _ _ (heap_alloc_new w _) (keep_alloc _ _ _) rfl (by simp))
  have this : (ps.toArray.map fun x => (x.1, ev n e x.2)) = vs.toArray := by simp [← hv]
  have hh : (Array.map (fun x : Nat × Operand => match x with | (i, x) => (i, ev n e x)) ps.toArray) = vs.toArray := by rw [← this]
  simp only [execOp]
  rw [hh]
  simp [hr w]

/-- a literal's bytes: its end is marked, its cells are read as they were -/
theorem o_cbytes {E : TypeId} {b len cap : Nat} {cs : Array Value} (hu : P.underlying TX = some (.slice E)) (he : P.underlying E = some (.int .u8)) (hx : ev n e x = .slice (some ⟨b, 0, none⟩) len cap) (hb : Blk w b cs E)
    (h : ∀ w', Rd w' (some ⟨b, 0, none⟩) cs.toList → Keep [b] w w' → w'.heap.size = w.heap.size → ow P n l0 K l (upd e d (.slice (some ⟨b, 0, none⟩) len cap)) w') :
    ow P n l0 K (⟨some d, .convert TX TX x, T, pos, af, none⟩ :: l) e w := by
  have hsh : w.shape? b = some (E, cs.size) := by
    unfold World.shape?
    rw [show w.heap[b]? = some (.cells cs E (0, 0)) from hb]
  have hheap : (w.freeze { block := b, off := cs.size } 1).heap[b]? = some (.cells cs E (cs.size, cs.size + 1)) := by
    unfold World.freeze
    rw [if_neg (by decide)]
    simp only [Array.getElem?_modify]
    rw [if_pos trivial, show w.heap[b]? = some (.cells cs E (0, 0)) from hb]
    simp
  refine o_run (v := .slice (some ⟨b, 0, none⟩) len cap) (w' := w.freeze { block := b, off := cs.size } 1) ?_ (h _ ?_ ⟨?_, ?_, ?_, ?_, ?_⟩ ?_)
  · simp [execOp, hx, convert, run_underlying hu, run_underlying he, markStringish, hsh]
  · intro i v hv
    refine ⟨b, 0, rfl, ?_⟩
    unfold World.cell?
    simp only [hheap]
    simpa using hv
  all_goals first
    | (unfold World.freeze; rw [if_neg (by decide)]; done)
    | (unfold World.freeze; rw [if_neg (by decide)]; simp; done)
    | (intro k _ hk; unfold World.freeze; rw [if_neg (by decide)]; simp only [Array.getElem?_modify]; rw [if_neg (by simp at hk; exact fun e => hk e.symm)])

theorem Blk.sl {w : World} {g : Nat} {cs : Array Value} {E : TypeId} {len sz : Nat} (h : Blk w g cs E) (hs : cs.size = len * sz) (hl : len ≤ maxLen) : Sl w E sz (some ⟨g, 0, none⟩) len len cs.toList :=
  ⟨by simpa using hs, .inr ⟨g, cs, rfl, h, Nat.le_refl _, hl, hs, List.take_of_length_le (by rw [Array.length_toList, hs]; exact Nat.le_refl _)⟩⟩

end E
end Go.Proofs.YtiapgmfooclpcaaDoor

/- Regions whose order is drawn: one walk in the order of the text serves every order. Two forms: every operation quiet in a class of worlds; every operation by a lasting fact. No condition. -/
namespace Go.Proofs.YtiapgmfooclpcaaDoor
open Go.RowKit
set_option linter.unusedVariables false
set_option linter.unusedSimpArgs false
namespace E

variable {P : Program} {n : Nat} {R : Exit → Env → World → Prop} {k : List KI} {e : Env} {w : World}

/-- what an operation waits for -/
def deps (o : Oper) : List Nat := (o.after.toList.filter (fun x => Region.binds .any x)).map (·.on)
def backB (i : Nat) : List Oper → Bool
  | [] => true
  | o :: l => (deps o).all (fun j => Nat.blt j i) && backB (i + 1) l

theorem backB_spec : ∀ (l : List Oper) (i0 : Nat), backB i0 l = true → ∀ i o, l[i]? = some o → ∀ j ∈ deps o, j < i0 + i
  | [], _, _, i, o, h => by simp at h
  | o' :: l, i0, hb, i, o, h => by
    simp only [backB, Bool.and_eq_true, List.all_eq_true] at hb
    cases i with
    | zero =>
      simp at h
      subst h
      intro j hj
      have := hb.1 j hj
      rw [Nat.blt_eq] at this
      omega
    | succ i =>
      simp at h
      intro j hj
      have := backB_spec l (i0 + 1) hb.2 i o h j hj
      omega

theorem mem_deps {o : Oper} {x : Edge} (h : x ∈ o.after) (hb : Region.binds .any x = true) : x.on ∈ deps o := by
  unfold deps
  exact List.mem_map.2 ⟨x, List.mem_filter.2 ⟨by simpa using h, hb⟩, rfl⟩

/-- every order, by an invariant over what has been done -/
theorem k_core {id : Nat} {l : List Oper} (hm : P.follows .mixedOrders = true) (hb : backB 0 l = true) (I : (Nat → Bool) → Env → World → Prop)
    (h0 : I (fun _ => false) e w.drew)
    (hstep : ∀ D e w i o, l[i]? = some o → D i = false → (∀ j ∈ deps o, D j = true) → I D e w → ow P n l (fun e' w' => I (fun x => if x = i then true else D x) e' w') [o] e w)
    (hend : ∀ D e w, (∀ i, i < l.length → D i = true) → I D e w → kw P n R k e w) :
    kw P n R (.code (.region id l.toArray true) :: k) e w := by
  have key : ∀ (fuel : Nat) (listed : Array Bool) (e : Env) (w : World), listed.size = l.length → ((List.range l.length).filter (fun i => listed.getD i true = false)).length = fuel → I (fun x => listed.getD x false) e w →
      wpAny P .any l.toArray (fun x a w' => ∃ e', a = act n e' ∧ kq P n R k x e' w') fuel listed (act n e) w := by
    intro fuel
    induction fuel with
    | zero =>
      intro listed e w hs hc hI
      have hall : ∀ i, i < l.length → listed.getD i false = true := by
        intro i hi
        have hnil := List.eq_nil_of_length_eq_zero hc
        have := List.filter_eq_nil_iff.1 hnil i (List.mem_range.2 hi)
        have hi' : i < listed.size := by omega
        simpa [Array.getD, hi'] using this
      refine ⟨?_, e, rfl, hend _ e w hall hI⟩
      apply List.eq_nil_iff_forall_not_mem.2
      intro j hj
      obtain ⟨h1, o, ho, _⟩ := mem_ready.1 hj
      have hj' : j < l.length := by
        have := (Array.getElem?_eq_some_iff.1 ho).1
        simpa using this
      have h2 := hall j hj'
      have hi' : j < listed.size := by omega
      simp [Array.getD, hi'] at h1 h2
      rw [h1] at h2
      cases h2
    | succ fuel ih =>
      intro listed e w hs hc hI
      refine ⟨fun hr => ?_, fun i hi => ?_⟩
      · -- some operation is ready
        exfalso
        have hne : (List.range l.length).filter (fun i => listed.getD i true = false) ≠ [] := by
          intro h0; rw [h0] at hc; simp at hc
        have hex : ∃ i, i < l.length ∧ listed.getD i true = false := by
          obtain ⟨i, hi⟩ := List.exists_mem_of_ne_nil _ hne
          obtain ⟨h1, h2⟩ := List.mem_filter.1 hi
          exact ⟨i, List.mem_range.1 h1, by simpa using h2⟩
        obtain ⟨i, ⟨hi1, hi2⟩, hmin⟩ := exists_least hex
        have ho : l.toArray[i]? = some l[i] := by simp [hi1]
        have : i ∈ Region.ready .any l.toArray listed := by
          refine mem_ready.2 ⟨hi2, l[i], ho, fun x hx hbx => ?_⟩
          have hlt := backB_spec l 0 hb i l[i] (by simp [hi1]) x.on (mem_deps hx hbx)
          have hx' : x.on < listed.size := by omega
          cases hv : listed.getD x.on false with
          | true => rfl
          | false =>
            have := hmin x.on ⟨by omega, by simpa [Array.getD, hx'] using hv⟩
            omega
        rw [hr] at this
        cases this
      · obtain ⟨h1, o, ho, hdep⟩ := mem_ready.1 hi
        have ho' : l[i]? = some o := by simpa using ho
        have hil : i < l.length := (List.getElem?_eq_some_iff.1 ho').1
        have hD : listed.getD i false = false := by
          have : i < listed.size := by omega
          simpa [Array.getD, this] using h1
        have hdeps : ∀ j ∈ deps o, listed.getD j false = true := by
          intro j hj
          unfold deps at hj
          obtain ⟨x, hx, rfl⟩ := List.mem_map.1 hj
          obtain ⟨hx1, hx2⟩ := List.mem_filter.1 hx
          exact hdep x (by simpa using hx1) (by simpa using hx2)
        have hst := hstep (fun x => listed.getD x false) e w i o ho' hD hdeps hI
        have hset : (fun x => if x = i then true else listed.getD x false) = fun x => (listed.setIfInBounds i true).getD x false := by
          funext x
          have : i < listed.size := by omega
          by_cases hx : x = i
          · subst hx; simp [this]
          · simp [hx, Ne.symm hx]
        have hcnt : ((List.range l.length).filter (fun j => (listed.setIfInBounds i true).getD j true = false)).length = fuel := by
          have hx : (List.range l.length).filter (fun j => (listed.setIfInBounds i true).getD j true = false) = ((List.range l.length).filter (fun j => listed.getD j true = false)).erase i := by
            rw [List.Nodup.erase_eq_filter (List.Pairwise.filter _ (List.nodup_range)), List.filter_filter]
            apply List.filter_congr
            intro j hj
            have hjl := List.mem_range.1 hj
            have h1 : i < listed.size := by omega
            by_cases hji : j = i
            · subst hji; simp [h1]
            · simp [hji, Ne.symm hji]
          rw [hx, List.length_erase_of_mem (List.mem_filter.2 ⟨List.mem_range.2 hil, by simpa using h1⟩), hc]
          simp
        rw [hset] at hst
        have hw : wpList P l.toArray (fun x a w' => x = .normal ∧ ∃ e', a = act n e' ∧ I (fun x => (listed.setIfInBounds i true).getD x false) e' w') [o] (act n e) w :=
          wpList_of_ow (fun e w hk => ⟨rfl, e, rfl, hk⟩) [o] e w hst
        unfold wpOp
        simp only [ho]
        unfold wpList at hw
        split
        · rename_i hwt
          rw [if_pos hwt] at hw
          rcases hw with hw | ⟨_, a', w', hq, _⟩
          · refine .inl ?_
            unfold Oper.wp at hw ⊢
            generalize (execOp (act n e).eval o).run P w = r at hw
            cases r with
            | ok nx w' =>
              cases nx <;> simp only [Oper.upon] at hw ⊢
              all_goals first
                | (obtain ⟨_, e', he', hI'⟩ := (hw : _ ∧ _); rw [he']; exact ih _ e' _ (by simp [hs]) hcnt hI')
                | skip
              case enter f args =>
                refine Calls.mono hw fun x w'' hx => ?_
                cases x with
                | returned v =>
                  obtain ⟨_, e', he', hI'⟩ := hx
                  show wpAny P .any l.toArray _ fuel _ ((act n e).put o.dst v) w''
                  rw [he']
                  exact ih _ e' _ (by simp [hs]) hcnt hI'
                | panicked c => exact absurd hx.1 (by simp)
                | outgrown => obtain ⟨a', w', hq, _⟩ := hx; exact absurd hq (by simp)
              case row r args =>
                exact Rows.mono hw fun v w'' hx => by
                  obtain ⟨_, e', he', hI'⟩ := hx
                  rw [he']
                  exact ih _ e' _ (by simp [hs]) hcnt hI'
            | halt hh w' => cases hh <;> simp only [Oper.upon] at hw ⊢ <;> first | exact hw.elim | exact absurd hw.1 (by simp)
          · exact absurd hq (by simp)
        · rename_i hwt
          rw [if_neg hwt] at hw
          obtain ⟨_, e', he', hI'⟩ := (hw : _ ∧ _)
          rw [he']
          exact ih _ e' _ (by simp [hs]) hcnt hI'
  refine wp_region_any hm ?_
  have := key l.length (Array.replicate l.length false) e w.drew (by simp) (by
    rw [List.filter_eq_self.2]
    · simp
    · intro i hi
      have := List.mem_range.1 hi
      simp [this]) (by
    have hf : (fun x => (Array.replicate l.length false).getD x false) = fun _ => false := by
      funext x
      by_cases hx : x < l.length <;> simp [hx]
    rw [hf]
    exact h0)
  simpa using this

/-- what has been done holds what it waits for -/
def Shut (l : List Oper) (D : Nat → Bool) : Prop := ∀ i o, l[i]? = some o → D i = true → ∀ j ∈ deps o, D j = true
theorem k_core2 {id : Nat} {l : List Oper} (hm : P.follows .mixedOrders = true) (hb : backB 0 l = true) (I : (Nat → Bool) → Env → World → Prop)
    (h0 : I (fun _ => false) e w.drew)
    (hstep : ∀ D e w i o, l[i]? = some o → D i = false → (∀ j ∈ deps o, D j = true) → Shut l D → I D e w → ow P n l (fun e' w' => I (fun x => if x = i then true else D x) e' w') [o] e w)
    (hend : ∀ D e w, (∀ i, i < l.length → D i = true) → I D e w → kw P n R k e w)
    (omono : ∀ {l0 : List Oper} {K K' : Env → World → Prop}, (∀ e w, K e w → K' e w) → ∀ {l : List Oper} {e : Env} {w : World}, ow P n l0 K l e w → ow P n l0 K' l e w) :
    kw P n R (.code (.region id l.toArray true) :: k) e w := by
  refine k_core hm hb (fun D e w => Shut l D ∧ I D e w) ⟨fun i o _ h => by simp at h, h0⟩ ?_ (fun D e w h hI => hend D e w h hI.2)
  intro D e w i o hl hD hdep hI
  refine omono (fun e' w' h => ⟨?_, h⟩) (hstep D e w i o hl hD hdep hI.1 hI.2)
  intro i' o' hl' hi' j hj
  by_cases hi : i' = i
  · subst hi
    obtain rfl := Option.some.inj (hl.symm.trans hl')
    simp only
    split
    · rfl
    · exact hdep j hj
  · simp only [hi, if_false] at hi'
    simp only
    split
    · rfl
    · exact hI.1 i' o' hl' hi' j hj

/-! ### ahead any order, behind it the order of the text -/
/-- what an operation waits for, through others too, as a number's bits -/
def mkM (acc : List Nat) (o : Oper) : Nat := (deps o).foldl (fun a j => Nat.lor a (Nat.lor (2 ^ j) (acc.getD j 0))) 0
def cloM : List Oper → List Nat → List Nat
  | [], acc => acc
  | o :: l, acc => cloM l (acc ++ [mkM acc o])
def chkM (m : Nat) : Nat → List Nat → Bool
  | _, [] => true
  | i, x :: xs => (Nat.blt i m || Nat.beq (Nat.land x (2 ^ i - 1)) (2 ^ i - 1)) && chkM m (i + 1) xs
def tailB (m : Nat) (i : Nat) (l : List Oper) : Bool := chkM m i (cloM l [])

theorem mkM_bit (acc : List Nat) (o : Oper) (j : Nat) (h : (mkM acc o).testBit j = true) : ∃ d ∈ deps o, j = d ∨ (acc.getD d 0).testBit j = true := by
  unfold mkM at h
  have key : ∀ (L : List Nat) (a : Nat), (L.foldl (fun a j => Nat.lor a (Nat.lor (2 ^ j) (acc.getD j 0))) a).testBit j = true → a.testBit j = true ∨ ∃ d ∈ L, j = d ∨ (acc.getD d 0).testBit j = true := by
    intro L
    induction L with
    | nil => intro a h; exact .inl h
    | cons d L ih =>
      intro a h
      rcases ih _ h with h | ⟨d', hd, h⟩
      · have h' : (a ||| (2 ^ d ||| acc.getD d 0)).testBit j = true := h
        rw [Nat.testBit_or, Nat.testBit_or, Bool.or_eq_true, Bool.or_eq_true, Nat.testBit_two_pow] at h'
        rcases h' with h' | h' | h'
        · exact .inl h'
        · exact .inr ⟨d, by simp, .inl (of_decide_eq_true h').symm⟩
        · exact .inr ⟨d, by simp, .inr h'⟩
      · exact .inr ⟨d', by simp [hd], h⟩
  rcases key _ _ h with h | h
  · simp at h
  · exact h

theorem cloM_spec (L : List Oper) (D : Nat → Bool) (hD : Shut L D) : ∀ (l : List Oper) (acc : List Nat), L.drop acc.length = l →
    (∀ i o, i < acc.length → L[i]? = some o → (∀ d ∈ deps o, D d = true) → ∀ j, (acc.getD i 0).testBit j = true → D j = true) →
    ∀ i o, L[i]? = some o → (∀ d ∈ deps o, D d = true) → ∀ j, ((cloM l acc).getD i 0).testBit j = true → D j = true
  | [], acc, hl, h, i, o, ho, hd, j, hj => by
    have hlen : L.length ≤ acc.length := by
      have := congrArg List.length hl
      simp at this
      omega
    have := (List.getElem?_eq_some_iff.1 ho).1
    exact h i o (by omega) ho hd j hj
  | q :: l, acc, hl, h, i, o, ho, hd, j, hj => by
    unfold cloM at hj
    have hq : L[acc.length]? = some q := by
      have := congrArg (fun x => x[0]?) hl
      simpa using this
    refine cloM_spec L D hD l (acc ++ [mkM acc q]) ?_ ?_ i o ho hd j hj
    · rw [List.length_append, List.length_singleton, ← List.drop_drop, hl]
      rfl
    · intro i o hi ho hd j hj
      by_cases hlt : i < acc.length
      · rw [List.getD_eq_getElem?_getD, List.getElem?_append_left hlt, ← List.getD_eq_getElem?_getD] at hj
        exact h i o hlt ho hd j hj
      · have hi' : i = acc.length := by simp at hi; omega
        subst hi'
        obtain rfl := Option.some.inj (hq.symm.trans ho)
        have e : (acc ++ [mkM acc q]).getD acc.length 0 = mkM acc q := by simp [List.getD_eq_getElem?_getD]
        rw [e] at hj
        obtain ⟨d, hdm, h'⟩ := mkM_bit acc q j hj
        rcases h' with rfl | h'
        · exact hd _ hdm
        · by_cases hda : d < acc.length
          · obtain ⟨od, hod⟩ : ∃ od, L[d]? = some od := by
              have := (List.getElem?_eq_some_iff.1 hq).1
              exact ⟨L[d]'(by omega), List.getElem?_eq_getElem _⟩
            exact h d od hda hod (hD d od hod (hd d hdm)) j h'
          · rw [List.getD_eq_getElem?_getD, List.getElem?_eq_none (by omega)] at h'
            simp at h'

theorem chkM_spec (m : Nat) : ∀ (xs : List Nat) (i0 : Nat), chkM m i0 xs = true → ∀ i, i < xs.length → m ≤ i0 + i → ∀ j, j < i0 + i → (xs.getD i 0).testBit j = true
  | [], _, _, i, h => by simp at h
  | x :: xs, i0, hb, i, h => by
    simp only [chkM, Bool.and_eq_true, Bool.or_eq_true] at hb
    cases i with
    | zero =>
      intro hm j hj
      rcases hb.1 with h1 | h1
      · rw [Nat.blt_eq] at h1; omega
      · have h2 : x &&& (2 ^ i0 - 1) = 2 ^ i0 - 1 := Nat.eq_of_beq_eq_true h1
        have h3 := congrArg (fun y => y.testBit j) h2
        simp only [Nat.testBit_and, Nat.testBit_two_pow_sub_one] at h3
        have hj' : j < i0 := by omega
        simpa [hj'] using h3
    | succ i =>
      intro hm j hj
      have := chkM_spec m xs (i0 + 1) hb.2 i (by simpa using h) (by omega) j (by omega)
      simpa using this
theorem cloM_len : ∀ (l : List Oper) (acc : List Nat), (cloM l acc).length = acc.length + l.length
  | [], acc => by simp [cloM]
  | o :: l, acc => by unfold cloM; rw [cloM_len l]; simp; omega
theorem tailB_spec (m : Nat) (l : List Oper) (h : tailB m 0 l = true) (i : Nat) (o : Oper) (hl : l[i]? = some o) (hm : m ≤ i) (D : Nat → Bool) (hD : Shut l D) (hd : ∀ d ∈ deps o, D d = true) : ∀ j, j < i → D j = true := by
  intro j hj
  refine cloM_spec l D hD l [] rfl (fun i o hi => by simp at hi) i o hl hd j ?_
  exact chkM_spec m _ 0 h i (by rw [cloM_len]; have := (List.getElem?_eq_some_iff.1 hl).1; simpa using this) (by omega) j (by omega)

/-- the slots that the first m operations write: each one of its own -/
def dsts (l : List Oper) : List (Option Nat) := l.map (·.dst)
def ownB : List (Option Nat) → Bool
  | [] => true
  | some d :: r => !(r.any (fun x => match x with | some y => Nat.beq d y | none => false)) && ownB r
  | none :: r => ownB r

theorem ownB_spec : ∀ (r : List (Option Nat)), ownB r = true → ∀ (i j d : Nat), r[i]? = some (some d) → r[j]? = some (some d) → i = j
  | [], _, i, j, d, h1, _ => by simp at h1
  | none :: r, h, i, j, d, h1, h2 => by
    cases i with
    | zero => simp at h1
    | succ i =>
      cases j with
      | zero => simp at h2
      | succ j =>
        simp at h1 h2
        rw [ownB_spec r h i j d h1 h2]
  | some a :: r, h, i, j, d, h1, h2 => by
    simp only [ownB, Bool.and_eq_true, Bool.not_eq_true'] at h
    have hno : ∀ x, some x ∈ r → x ≠ a := by
      intro x hx he
      subst he
      have : r.any (fun y => match y with | some y => Nat.beq x y | none => false) = true := List.any_eq_true.2 ⟨some x, hx, by simp⟩
      rw [h.1] at this
      cases this
    cases i with
    | zero =>
      cases j with
      | zero => rfl
      | succ j =>
        simp at h1 h2
        subst h1
        exact absurd rfl (hno _ (List.mem_of_getElem? h2))
    | succ i =>
      cases j with
      | zero =>
        simp at h1 h2
        subst h2
        exact absurd rfl (hno _ (List.mem_of_getElem? h1))
      | succ j =>
        simp at h1 h2
        rw [ownB_spec r h.2 i j d h1 h2]
theorem beqf {t d : Nat} (h : t ≠ d) : Nat.beq t d = false := by
  cases hb : Nat.beq t d with
  | true => exact absurd (Nat.eq_of_beq_eq_true hb) h
  | false => rfl

theorem ow_frame {l0 : List Oper} {K : Env → World → Prop} {o : Oper} (h : ow P n l0 K [o] e w) : ow P n l0 (fun e' w' => K e' w' ∧ ∃ v, e' = updo e o.dst v) [o] e w := by
  unfold ow at h ⊢
  split
  · rename_i hw
    rw [if_pos hw] at h
    unfold opW at h ⊢
    generalize (execOp (ev n e) o).run P w = r at h ⊢
    cases r with
    | halt x w' => exact h.elim
    | ok nx w' =>
      cases nx with
      | value v => exact ⟨h, v, rfl⟩
      | skip => exact ⟨h, _, rfl⟩
      | enter f args =>
        refine Calls.mono h fun x w'' hx => ?_
        cases x with
        | returned v => exact ⟨hx, v, rfl⟩
        | _ => exact hx
      | _ => exact h.elim
  · rename_i hw
    rw [if_neg hw] at h
    exact ⟨h, _, rfl⟩

theorem ow_mono {l0 : List Oper} {K K' : Env → World → Prop} (hK : ∀ e w, K e w → K' e w) : ∀ {l : List Oper} {e : Env} {w : World}, ow P n l0 K l e w → ow P n l0 K' l e w
  | [], _, _, h => hK _ _ h
  | o :: l, e, w, h => by
    unfold ow at h ⊢
    split
    · rename_i hw
      rw [if_pos hw] at h
      unfold opW at h ⊢
      generalize (execOp (ev n e) o).run P w = r at h ⊢
      cases r with
      | halt x w' => exact h.elim
      | ok nx w' =>
        cases nx with
        | value v => exact ow_mono hK h
        | skip => exact ow_mono hK h
        | enter f args =>
          refine Calls.mono h fun x w'' hx => ?_
          cases x with
          | returned v => exact ow_mono hK hx
          | _ => exact hx
        | _ => exact h.elim
    · rename_i hw
      rw [if_neg hw] at h
      exact ow_mono hK h

/-- one, then the rest -/
theorem ow_cons {l0 : List Oper} {K : Env → World → Prop} {o : Oper} {l : List Oper} (h : ow P n l0 K (o :: l) e w) : ow P n l0 (fun e' w' => ow P n l0 K l e' w') [o] e w := by
  unfold ow at h ⊢
  exact h

def rdo (e : Env) : Option Nat → Value
  | some t => e t
  | none => undef

theorem slotOf_dst {l : List Oper} {i : Nat} {o : Oper} (h : l[i]? = some o) : slotOf l i = o.dst := by rw [← slotOf_eq, h]; rfl

/-- whoever reads what another one of the first m writes waits for it -/
def readB (l : List Oper) (m : Nat) (i : Nat) : List Oper → Bool
  | [] => true
  | o :: r => (List.range m).all (fun j => Nat.beq j i || match slotOf l j with
      | some d => !((o.looksAt l.toArray).any (fun x => Nat.beq d x)) || (deps o).any (fun x => Nat.beq x j)
      | none => true) && (match o.op with | .select _ _ => false | _ => true) && !(match o.dst with | some d => (o.looksAt l.toArray).any (fun x => Nat.beq d x) | none => false) && readB l m (i + 1) r

theorem readB_spec (l : List Oper) (m : Nat) : ∀ (r : List Oper) (i0 : Nat), readB l m i0 r = true → ∀ i o, r[i]? = some o →
    (∀ j d, j < m → j ≠ i0 + i → slotOf l j = some d → d ∈ o.looksAt l.toArray → j ∈ deps o) ∧ (∀ cs b, o.op ≠ .select cs b) ∧ (∀ d, o.dst = some d → d ∉ o.looksAt l.toArray)
  | [], _, _, i, o, h => by simp at h
  | o' :: r, i0, hb, i, o, h => by
    simp only [readB, Bool.and_eq_true] at hb
    cases i with
    | zero =>
      simp at h
      subst h
      refine ⟨fun j d hj hne hs hd => ?_, fun cs b hsel => ?_, fun d hdst hd => ?_⟩
      · have := List.all_eq_true.1 hb.1.1.1 j (List.mem_range.2 hj)
        rw [hs] at this
        rw [Bool.or_eq_true] at this
        rcases this with h1 | h1
        · exact absurd (Nat.eq_of_beq_eq_true h1) hne
        · simp only [Bool.or_eq_true, Bool.not_eq_true'] at h1
          rcases h1 with h2 | h2
          · have : (o'.looksAt l.toArray).any (fun x => Nat.beq d x) = true := List.any_eq_true.2 ⟨d, hd, by simp⟩
            rw [h2] at this
            cases this
          · obtain ⟨x, hx, he⟩ := List.any_eq_true.1 h2
            rw [Nat.eq_of_beq_eq_true he] at hx
            exact hx
      · have := hb.1.1.2
        rw [hsel] at this
        cases this
      · have := hb.1.2
        rw [hdst] at this
        simp only [Bool.not_eq_true'] at this
        have h2 : (o'.looksAt l.toArray).any (fun x => Nat.beq d x) = true := List.any_eq_true.2 ⟨d, hd, by simp⟩
        rw [this] at h2
        cases h2
    | succ i =>
      simp at h
      have := readB_spec l m r (i0 + 1) hb.2 i o h
      rw [show i0 + 1 + i = i0 + (i + 1) by omega] at this
      exact this

/-- a move's value is what it moves -/
theorem ow_move {l0 : List Oper} {K : Env → World → Prop} {o : Oper} {x : Operand} (hg : o.guard = none) (hx : mv o.op = some x) (h : ow P n l0 K [o] e w) : ow P n l0 (fun e' w' => K e' w' ∧ e' = updo e o.dst (ev n e x)) [o] e w := by
  obtain ⟨d, op, T, pos, af, g⟩ := o
  simp only at hg hx
  subst hg
  unfold ow at h ⊢
  rw [if_pos (by simp [Region.wanted])] at h ⊢
  have hr : (execOp (ev n e) ⟨d, op, T, pos, af, none⟩).run P w = .ok (.value (ev n e x)) w := by
    cases op <;> simp [mv] at hx <;> subst hx <;> simp [execOp]
  unfold opW at h ⊢
  rw [hr] at h ⊢
  exact ⟨h, rfl⟩

/-- the block that a value leads to -/
def vb : Value → Nat
  | .slice (some p) _ _ => p.block
  | .pointer (some p) => p.block
  | .map (some r) => r
  | _ => 0

/-- EVERY OPERATION OF THE FIRST m BY A LASTING FACT V OF ITS VALUE; those of F make new blocks, no two of them one -/
theorem k_anyG {id : Nat} {l : List Oper} (m : Nat) (Le : World → World → Prop) (V : Nat → Value → World → Prop) (F : List Nat) (G : (Nat → Bool) → World → Prop) (hm : P.follows .mixedOrders = true) (hb : backB 0 l = true) (ht : tailB m 0 l = true) (ho : ownB (dsts (l.take m)) = true) (hr : readB l m 0 (l.take m) = true)
    (hrefl : ∀ w, Le w w) (htrans : ∀ a b c, Le a b → Le b c → Le a c) (hst : ∀ i v w w', V i v w → Le w w' → V i v w') (hF : ∀ i, i ∈ F → ∀ v w, V i v w → vb v < w.heap.size) (hG : G (fun _ => false) w.drew)
    (hop : ∀ i o, i < m → l[i]? = some o → ∀ D e' w', D i = false → (∀ j ∈ deps o, D j = true) → Shut l D → G D w' → Le w.drew w' → (∀ t, (∀ j, j < m → slotOf l j ≠ some t) → e' t = e t) → (∀ j ∈ deps o, ∀ t, slotOf l j = some t → V j (e' t) w') →
      ow P n l (fun e2 w2 => Le w' w2 ∧ V i (rdo e2 o.dst) w2 ∧ (i ∈ F → w'.heap.size ≤ vb (rdo e2 o.dst)) ∧ G (fun x => if x = i then true else D x) w2) [o] e' w')
    (hend : ∀ D e' w', (∀ i, i < m → i < l.length → D i = true) → G D w' → Le w.drew w' → (∀ t, (∀ j, j < m → slotOf l j ≠ some t) → e' t = e t) → (∀ j, j < m → ∀ t, slotOf l j = some t → V j (e' t) w') → (∀ i j, i ∈ F → j ∈ F → i < m → j < m → i ≠ j → ∀ t u, slotOf l i = some t → slotOf l j = some u → vb (e' t) ≠ vb (e' u)) → (∀ i o x s, i < m → l[i]? = some o → o.guard = none → mv o.op = some x → slotOf l i = some s → e' s = ev n e' x) → ow P n l (kw P n R k) (l.drop m) e' w') :
    kw P n R (.code (.region id l.toArray true) :: k) e w := by
  have hown : ∀ i j d, i < m → j < m → slotOf l i = some d → slotOf l j = some d → i = j := by
    intro i j d hi hj h1 h2
    have conv : ∀ i, i < m → slotOf l i = some d → (dsts (l.take m))[i]? = some (some d) := by
      intro i hi h1
      rw [← slotOf_eq] at h1
      cases hl : l[i]? with
      | none => rw [hl] at h1; simp at h1
      | some o => rw [hl] at h1; simp at h1; simp [dsts, List.getElem?_take, hi, hl, h1]
    exact ownB_spec _ ho i j d (conv i hi h1) (conv j hj h2)
  refine k_core2 hm hb (fun D e' w' =>
    ((Le w.drew w' ∧ G D w') ∧ (∀ t, (∀ j, j < m → D j = true → slotOf l j ≠ some t) → e' t = e t) ∧ (∀ j, j < m → D j = true → ∀ t, slotOf l j = some t → V j (e' t) w') ∧ (∀ q, m ≤ q → D q = false) ∧ (∀ i j, i ∈ F → j ∈ F → i < m → j < m → i ≠ j → D i = true → D j = true → ∀ t u, slotOf l i = some t → slotOf l j = some u → vb (e' t) ≠ vb (e' u)) ∧
      (∀ i o, i < m → D i = true → l[i]? = some o → ∀ j ∈ deps o, D j = true) ∧ (∀ i o x s, i < m → D i = true → l[i]? = some o → o.guard = none → mv o.op = some x → slotOf l i = some s → e' s = ev n e' x)) ∨
    (∃ q, m < q ∧ (∀ i, i < q → D i = true) ∧ (∀ i, q ≤ i → D i = false) ∧ ow P n l (kw P n R k) (l.drop q) e' w')) ?_ ?_ ?_ (fun hK => ow_mono hK)
  · exact .inl ⟨⟨hrefl _, hG⟩, fun t _ => rfl, fun j _ h => by simp at h, fun _ _ => rfl, fun i j _ _ _ _ _ h => by simp at h, fun i o _ h => by simp at h, fun i o x s _ h => by simp at h⟩
  · intro D e' w' i o hl hD hdep hShut hI
    by_cases him : i < m
    · rcases hI with ⟨⟨hL, hGD⟩, hA, hV, hq, hN, hDn, hMv⟩ | ⟨q, hq, hall, _, _⟩
      · have hA' : ∀ t, (∀ j, j < m → slotOf l j ≠ some t) → e' t = e t := fun t h => hA t (fun j hj _ => h j hj)
        have hd : ∀ j ∈ deps o, ∀ t, slotOf l j = some t → V j (e' t) w' := by
          intro j hj t hs
          have := backB_spec l 0 hb i o hl j hj
          exact hV j (by omega) (hdep j hj) t hs
        have hrun0 : ow P n l (fun e2 w2 => (Le w' w2 ∧ V i (rdo e2 o.dst) w2 ∧ (i ∈ F → w'.heap.size ≤ vb (rdo e2 o.dst)) ∧ G (fun x => if x = i then true else D x) w2) ∧ (∀ x, o.guard = none → mv o.op = some x → e2 = updo e' o.dst (ev n e' x))) [o] e' w' := by
          by_cases hx : ∃ x, o.guard = none ∧ mv o.op = some x
          · obtain ⟨x, hg, hx⟩ := hx
            refine ow_mono ?_ (ow_move hg hx (hop i o him hl D e' w' hD hdep hShut hGD hL hA' hd))
            rintro e2 w2 ⟨h1, h2⟩
            exact ⟨h1, fun y _ hy => by rw [hx] at hy; rw [← Option.some.inj hy]; exact h2⟩
          · exact ow_mono (fun e2 w2 h1 => ⟨h1, fun y hg hy => absurd ⟨y, hg, hy⟩ hx⟩) (hop i o him hl D e' w' hD hdep hShut hGD hL hA' hd)
        refine ow_mono ?_ (ow_frame hrun0)
        rintro e2 w2 ⟨⟨⟨hL2, hV2, hNew, hG2⟩, hmv⟩, v, rfl⟩
        have hdc : o.dst = none ∨ ∃ d, o.dst = some d := by cases o.dst <;> simp
        rcases hdc with hdst | ⟨d, hdst⟩
        · have hup : updo e' o.dst v = e' := by rw [hdst]; rfl
          rw [hup]
          have hsi : slotOf l i = none := by rw [slotOf_dst hl, hdst]
          have hni : ∀ j t, slotOf l j = some t → j ≠ i := fun j t hs hji => by rw [hji, hsi] at hs; cases hs
          refine .inl ⟨⟨htrans _ _ _ hL hL2, hG2⟩, ?_, ?_, ?_, ?_, ?_, ?_⟩
          · intro t h
            exact hA t (fun j hj hDj => h j hj (by by_cases hji : j = i <;> simp [hji, hDj]))
          · intro j hj hDj t hs
            exact hst _ _ _ _ (hV j hj (by simpa [hni j t hs] using hDj) t hs) hL2
          · intro q hqm
            have : q ≠ i := by omega
            simp [this, hq q hqm]
          · intro a b ha hb ham hbm hab hDa hDb ta tb hsa hsb
            exact hN a b ha hb ham hbm hab (by simpa [hni a ta hsa] using hDa) (by simpa [hni b tb hsb] using hDb) ta tb hsa hsb
          · intro a oa ham hDa hla j hj
            by_cases hji : j = i
            · simp [hji]
            · by_cases hai : a = i
              · subst hai
                rw [hl] at hla
                obtain rfl := Option.some.inj hla
                simp [hji, hdep j hj]
              · simp [hji, hDn a oa ham (by simpa [hai] using hDa) hla j hj]
          · intro a oa x sa ham hDa hla hga hxa hsa
            exact hMv a oa x sa ham (by simpa [hni a sa hsa] using hDa) hla hga hxa hsa
        have hsi : slotOf l i = some d := by rw [slotOf_dst hl, hdst]
        refine .inl ⟨⟨htrans _ _ _ hL hL2, hG2⟩, ?_, ?_, ?_, ?_, ?_, ?_⟩
        · intro t h
          have hne : t ≠ d := fun h' => h i him (by simp) (by rw [hsi, h'])
          rw [hdst]
          show upd e' d v t = e t
          unfold upd
          rw [beqf hne]
          exact hA t (fun j hj hDj => h j hj (by by_cases hji : j = i <;> simp [hji, hDj]))
        · intro j hj hDj t hs
          by_cases hji : j = i
          · subst hji
            have htd : t = d := by rw [hsi] at hs; exact (Option.some.inj hs).symm
            subst htd
            rw [hdst] at hV2 ⊢
            exact hV2
          · have hne : t ≠ d := fun h' => hji (hown j i d hj him (by rw [hs, h']) hsi)
            rw [hdst]
            show V j (upd e' d v t) w2
            unfold upd
            rw [beqf hne]
            exact hst _ _ _ _ (hV j hj (by simpa [hji] using hDj) t hs) hL2
        · intro q hqm
          have : q ≠ i := by omega
          simp [this, hq q hqm]
        · intro a b ha hb ham hbm hab hDa hDb ta tb hsa hsb
          have hfix : ∀ j t, j < m → j ≠ i → slotOf l j = some t → updo e' o.dst v t = e' t := by
            intro j t hj hji hs
            have hne : t ≠ d := fun h' => hji (hown j i d hj him (by rw [hs, h']) hsi)
            rw [hdst]
            show upd e' d v t = e' t
            unfold upd
            rw [beqf hne]
            rfl
          have hown2 : ∀ t, slotOf l i = some t → updo e' o.dst v t = rdo (updo e' o.dst v) o.dst := by
            intro t ht
            rw [hsi] at ht
            obtain rfl := Option.some.inj ht
            rw [hdst]
            rfl
          by_cases hai : a = i
          · subst hai
            have hbi : b ≠ a := fun h => hab h.symm
            rw [hown2 ta hsa, hfix b tb hbm hbi hsb]
            have h1 := hNew ha
            have h2 := hF b hb _ _ (hV b hbm (by simpa [hbi] using hDb) tb hsb)
            omega
          · by_cases hbi : b = i
            · subst hbi
              rw [hown2 tb hsb, hfix a ta ham hai hsa]
              have h1 := hNew hb
              have h2 := hF a ha _ _ (hV a ham (by simpa [hai] using hDa) ta hsa)
              omega
            · rw [hfix a ta ham hai hsa, hfix b tb hbm hbi hsb]
              exact hN a b ha hb ham hbm hab (by simpa [hai] using hDa) (by simpa [hbi] using hDb) ta tb hsa hsb
        · intro a oa ham hDa hla j hj
          by_cases hji : j = i
          · simp [hji]
          · by_cases hai : a = i
            · subst hai
              rw [hl] at hla
              obtain rfl := Option.some.inj hla
              simp [hji, hdep j hj]
            · simp [hji, hDn a oa ham (by simpa [hai] using hDa) hla j hj]
        · intro a oa x sa ham hDa hla hga hxa hsa
          have hlam : (l.take m)[a]? = some oa := by rw [List.getElem?_take, if_pos ham]; exact hla
          obtain ⟨r1, r2, r3⟩ := readB_spec l m _ 0 hr a oa hlam
          rw [Nat.zero_add] at r1
          have hlook : ∀ t, x = .tmp t → t ∈ oa.looksAt l.toArray := by
            rintro t rfl
            refine List.mem_append_left _ (List.mem_filterMap.2 ⟨.tmp t, ?_, rfl⟩)
            cases hop' : oa.op <;> rw [hop'] at hxa <;> simp [mv] at hxa <;> simp [Op.operands, hxa]
          have hsame : ev n (updo e' o.dst v) x = ev n e' x := by
            cases x with
            | tmp t =>
              have htl := hlook t rfl
              have hne : t ≠ d := by
                rintro rfl
                by_cases hai : a = i
                · subst hai
                  rw [hl] at hla
                  obtain rfl := Option.some.inj hla
                  exact r3 t hdst htl
                · have h1 := r1 i t him (fun h => hai h.symm) hsi htl
                  have h2 := hDn a oa ham (by simpa [hai] using hDa) hla i h1
                  rw [hD] at h2
                  cases h2
              simp only [ev]
              rw [hdst]
              show (bif Nat.blt t n then upd e' d v t else undef) = _
              unfold upd
              rw [beqf hne]
              rfl
            | _ => rfl
          rw [hsame]
          by_cases hai : a = i
          · subst hai
            rw [hl] at hla
            obtain rfl := Option.some.inj hla
            have h1 := congrFun (hmv x hga hxa) d
            rw [hdst] at h1
            rw [hsi] at hsa
            obtain rfl := Option.some.inj hsa
            rw [hdst]
            simpa [updo, upd] using h1
          · have hne : sa ≠ d := fun h' => hai (hown a i d ham him (by rw [hsa, h']) hsi)
            have h0 : updo e' o.dst v sa = e' sa := by
              rw [hdst]
              show upd e' d v sa = e' sa
              unfold upd
              rw [beqf hne]
              rfl
            rw [h0]
            exact hMv a oa x sa ham (by simpa [hai] using hDa) hla hga hxa hsa
      · have := hall i (by omega)
        rw [hD] at this
        cases this
    · have hdall : ∀ j, j < i → D j = true := tailB_spec m l ht i o hl (by omega) D hShut hdep
      have hdrop : l.drop i = o :: l.drop (i + 1) := by
        have hlt := (List.getElem?_eq_some_iff.1 hl).1
        rw [List.drop_eq_getElem_cons hlt, (List.getElem?_eq_some_iff.1 hl).2]
      have fin : (∀ j, i < j → D j = false) → ow P n l (kw P n R k) (l.drop i) e' w' → ow P n l (fun e2 w2 => ∃ q, m < q ∧ (∀ x, x < q → (if x = i then true else D x) = true) ∧ (∀ x, q ≤ x → (if x = i then true else D x) = false) ∧ ow P n l (kw P n R k) (l.drop q) e2 w2) [o] e' w' := by
        intro hlater hrun
        rw [hdrop] at hrun
        refine ow_mono ?_ (ow_cons hrun)
        intro e2 w2 h2
        refine ⟨i + 1, by omega, fun x hx => ?_, fun x hx => ?_, h2⟩
        · by_cases hxi : x = i
          · simp [hxi]
          · simp [hxi, hdall x (by omega)]
        · have : x ≠ i := by omega
          simp [this, hlater x (by omega)]
      rcases hI with ⟨⟨hL, hGD⟩, hA, hV, hq, hN, hDn, hMv⟩ | ⟨q, hq, hall, hnone, hrun⟩
      · have him' : i = m := by
          by_cases h : i = m
          · exact h
          · have h1 := hdall m (by omega)
            rw [hq m (Nat.le_refl _)] at h1
            cases h1
        subst him'
        exact ow_mono (fun _ _ h => .inr h) (fin (fun j hj => hq j (by omega)) (hend D e' w' (fun j hj _ => hdall j hj) hGD hL (fun t h => hA t (fun j hj _ => h j hj)) (fun j hj t hs => hV j hj (hdall j hj) t hs) (fun a b ha hb ham hbm hab => hN a b ha hb ham hbm hab (hdall a ham) (hdall b hbm)) (fun a oa x s ham => hMv a oa x s ham (hdall a ham))))
      · have hqi : q = i := by
          by_cases h1 : i < q
          · have := hall i h1; rw [hD] at this; cases this
          · by_cases h2 : q < i
            · have := hdall q h2; rw [hnone q (Nat.le_refl _)] at this; cases this
            · omega
        subst hqi
        exact ow_mono (fun _ _ h => .inr h) (fin (fun j hj => hnone j (by omega)) hrun)
  · intro D e' w' hall hI
    rcases hI with ⟨⟨hL, hGD⟩, hA, hV, hq, hN, hDn, hMv⟩ | ⟨q, hq, hall', hnone, hrun⟩
    · have hlen : l.length ≤ m := by
        by_cases h : l.length ≤ m
        · exact h
        · have := hall m (by omega); rw [hq m (Nat.le_refl _)] at this; cases this
      have hin : ∀ j t, slotOf l j = some t → j < l.length := by
        intro j t hs
        rw [← slotOf_eq] at hs
        cases hl : l[j]? with
        | none => rw [hl] at hs; simp at hs
        | some o => exact (List.getElem?_eq_some_iff.1 hl).1
      have := hend D e' w' (fun j _ hj => hall j hj) hGD hL (fun t h => hA t (fun j hj _ => h j hj)) (fun j hj t hs => hV j hj (hall j (hin j t hs)) t hs)
        (fun a b ha hb ham hbm hab t u hst' hsu => hN a b ha hb ham hbm hab (hall a (hin a t hst')) (hall b (hin b u hsu)) t u hst' hsu)
        (fun a oa x s ham hla => hMv a oa x s ham (hall a ((List.getElem?_eq_some_iff.1 hla).1)) hla)
      rw [List.drop_eq_nil_of_le hlen] at this
      exact this
    · have hlen : l.length ≤ q := by
        by_cases h : l.length ≤ q
        · exact h
        · have := hall q (by omega); rw [hnone q (Nat.le_refl _)] at this; cases this
      rw [List.drop_eq_nil_of_le hlen] at hrun
      exact hrun

theorem k_anyF {id : Nat} {l : List Oper} (m : Nat) (Le : World → World → Prop) (V : Nat → Value → World → Prop) (F : List Nat) (hm : P.follows .mixedOrders = true) (hb : backB 0 l = true) (ht : tailB m 0 l = true) (ho : ownB (dsts (l.take m)) = true) (hr : readB l m 0 (l.take m) = true)
    (hrefl : ∀ w, Le w w) (htrans : ∀ a b c, Le a b → Le b c → Le a c) (hst : ∀ i v w w', V i v w → Le w w' → V i v w') (hF : ∀ i, i ∈ F → ∀ v w, V i v w → vb v < w.heap.size)
    (hop : ∀ i o, i < m → l[i]? = some o → ∀ e' w', Le w.drew w' → (∀ t, (∀ j, j < m → slotOf l j ≠ some t) → e' t = e t) → (∀ j ∈ deps o, ∀ t, slotOf l j = some t → V j (e' t) w') →
      ow P n l (fun e2 w2 => Le w' w2 ∧ V i (rdo e2 o.dst) w2 ∧ (i ∈ F → w'.heap.size ≤ vb (rdo e2 o.dst))) [o] e' w')
    (hend : ∀ e' w', Le w.drew w' → (∀ t, (∀ j, j < m → slotOf l j ≠ some t) → e' t = e t) → (∀ j, j < m → ∀ t, slotOf l j = some t → V j (e' t) w') → (∀ i j, i ∈ F → j ∈ F → i < m → j < m → i ≠ j → ∀ t u, slotOf l i = some t → slotOf l j = some u → vb (e' t) ≠ vb (e' u)) → (∀ i o x s, i < m → l[i]? = some o → o.guard = none → mv o.op = some x → slotOf l i = some s → e' s = ev n e' x) → ow P n l (kw P n R k) (l.drop m) e' w') :
    kw P n R (.code (.region id l.toArray true) :: k) e w :=
  k_anyG m Le V F (fun _ _ => True) hm hb ht ho hr hrefl htrans hst hF trivial
    (fun i o hi hl D e' w' _ _ _ _ h1 h2 h3 => ow_mono (fun _ _ h => ⟨h.1, h.2.1, h.2.2, trivial⟩) (hop i o hi hl e' w' h1 h2 h3))
    (fun D e' w' _ _ h1 h2 h3 h4 h5 => hend e' w' h1 h2 h3 h4 h5)

/-- EVERY OPERATION OF THE FIRST m BY A LASTING FACT V OF ITS VALUE -/
theorem k_any {id : Nat} {l : List Oper} (m : Nat) (Le : World → World → Prop) (V : Nat → Value → World → Prop) (hm : P.follows .mixedOrders = true) (hb : backB 0 l = true) (ht : tailB m 0 l = true) (ho : ownB (dsts (l.take m)) = true) (hr : readB l m 0 (l.take m) = true)
    (hrefl : ∀ w, Le w w) (htrans : ∀ a b c, Le a b → Le b c → Le a c) (hst : ∀ i v w w', V i v w → Le w w' → V i v w')
    (hop : ∀ i o, i < m → l[i]? = some o → ∀ e' w', Le w.drew w' → (∀ t, (∀ j, j < m → slotOf l j ≠ some t) → e' t = e t) → (∀ j ∈ deps o, ∀ t, slotOf l j = some t → V j (e' t) w') →
      ow P n l (fun e2 w2 => Le w' w2 ∧ V i (rdo e2 o.dst) w2) [o] e' w')
    (hend : ∀ e' w', Le w.drew w' → (∀ t, (∀ j, j < m → slotOf l j ≠ some t) → e' t = e t) → (∀ j, j < m → ∀ t, slotOf l j = some t → V j (e' t) w') → ow P n l (kw P n R k) (l.drop m) e' w') :
    kw P n R (.code (.region id l.toArray true) :: k) e w :=
  k_anyF m Le V [] hm hb ht ho hr hrefl htrans hst (fun _ h => by simp at h) (fun i o hi hl e' w' h1 h2 h3 => ow_mono (fun _ _ h => ⟨h.1, h.2, fun h => by simp at h⟩) (hop i o hi hl e' w' h1 h2 h3)) (fun e' w' h1 h2 h3 _ _ => hend e' w' h1 h2 h3)

/-! ### every operation quiet in a class of worlds: one walk in the order of the text -/
def qw (P : Program) (n : Nat) (l0 : List Oper) (C : World → Prop) (K : Env → Prop) : List Oper → Env → Prop
  | [], e => K e
  | o :: l, e => ∃ v, (∀ w, C w → ow P n l0 (fun e' w' => e' = updo e o.dst v ∧ C w') [o] e w) ∧ qw P n l0 C K l (updo e o.dst v)

theorem q_step {l0 l : List Oper} {C : World → Prop} {K : Env → Prop} {o : Oper} {v : Value} (h1 : ∀ w, C w → ow P n l0 (fun e' w' => e' = updo e o.dst v ∧ C w') [o] e w) (h2 : qw P n l0 C K l (updo e o.dst v)) : qw P n l0 C K (o :: l) e := ⟨v, h1, h2⟩
theorem q_nil {l0 : List Oper} {C : World → Prop} {K : Env → Prop} (h : K e) : qw P n l0 C K [] e := h
theorem q_split {l0 l : List Oper} {C : World → Prop} {K : Env → Prop} {t : Nat} {p : Prop} [Decidable p] (h : e t = .bool (decide p)) (ht : p → qw P n l0 C K l (upd e t (.bool true))) (hf : ¬ p → qw P n l0 C K l (upd e t (.bool false))) : qw P n l0 C K l e := by
  by_cases hp : p
  · have := ht hp
    rwa [upd_self (by rw [h]; simp [hp])] at this
  · have := hf hp
    rwa [upd_self (by rw [h]; simp [hp])] at this
theorem q_true {l0 l : List Oper} {C : World → Prop} {K : Env → Prop} {t : Nat} {p : Prop} [Decidable p] (h : e t = .bool (decide p)) (hp : p) (ht : qw P n l0 C K l (upd e t (.bool true))) : qw P n l0 C K l e := q_split h (fun _ => ht) (fun hn => absurd hp hn)
theorem q_false {l0 l : List Oper} {C : World → Prop} {K : Env → Prop} {t : Nat} {p : Prop} [Decidable p] (h : e t = .bool (decide p)) (hp : ¬ p) (ht : qw P n l0 C K l (upd e t (.bool false))) : qw P n l0 C K l e := q_split h (fun hh => absurd hh hp) (fun _ => ht)

/-- the environment behind the first i operations -/
def envAt (l : List Oper) (v : Nat → Value) (e : Env) : Nat → Env
  | 0 => e
  | i + 1 => updo (envAt l v e i) (slotOf l i) (v i)

theorem qw_vals {l0 : List Oper} {C : World → Prop} {K : Env → Prop} : ∀ (l : List Oper) (e : Env), qw P n l0 C K l e →
    ∃ v : Nat → Value, (∀ i o, l[i]? = some o → ∀ w, C w → ow P n l0 (fun e' w' => e' = updo (envAt l v e i) o.dst (v i) ∧ C w') [o] (envAt l v e i) w) ∧ K (envAt l v e l.length)
  | [], e, h => ⟨fun _ => undef, fun i o h => by simp at h, h⟩
  | o :: l, e, ⟨v0, h1, h2⟩ => by
    obtain ⟨v, hv, hK⟩ := qw_vals l _ h2
    have henv : ∀ i, envAt (o :: l) (fun i => match i with | 0 => v0 | i + 1 => v i) e (i + 1) = envAt l v (updo e o.dst v0) i := by
      intro i
      induction i with
      | zero => rfl
      | succ i ih =>
        show updo (envAt (o :: l) _ e (i + 1)) (slotOf (o :: l) (i + 1)) (v i) = updo (envAt l v (updo e o.dst v0) i) (slotOf l i) (v i)
        rw [ih]
        rfl
    refine ⟨fun i => match i with | 0 => v0 | i + 1 => v i, ?_, ?_⟩
    · intro i o' hi w hC
      cases i with
      | zero =>
        simp at hi
        subst hi
        exact h1 w hC
      | succ i =>
        simp at hi
        rw [henv]
        exact hv i o' hi w hC
    · rw [List.length_cons, henv]
      exact hK

theorem ow_congr {l0 : List Oper} {o : Oper} {e1 e2 : Env} {C : World → Prop} {v : Value} (hsel : ∀ cs b, o.op ≠ .select cs b) (h : ∀ t, t ∈ o.looksAt l0.toArray → e1 t = e2 t) (h1 : ow P n l0 (fun e' w' => e' = updo e1 o.dst v ∧ C w') [o] e1 w) :
    ow P n l0 (fun e' w' => e' = updo e2 o.dst v ∧ C w') [o] e2 w := by
  have hev : ∀ t, t ∈ o.looksAt l0.toArray → ev n e1 (.tmp t) = ev n e2 (.tmp t) := fun t ht => by simp only [ev, h t ht]
  have hop : execOp (ev n e1) o = execOp (ev n e2) o := by
    refine execOp_congr o hsel fun x hx => ?_
    cases x with
    | tmp t => exact hev t (List.mem_append_left _ (List.mem_filterMap.2 ⟨.tmp t, by simpa using hx, rfl⟩))
    | _ => rfl
  have hwant : Region.wanted o (yielded l0.toArray (act n e1).tmps) = Region.wanted o (yielded l0.toArray (act n e2).tmps) := by
    unfold Region.wanted
    cases hg : o.guard with
    | none => rfl
    | some g =>
      obtain ⟨j, b⟩ := g
      simp only []
      have hy : yielded l0.toArray (act n e1).tmps j = yielded l0.toArray (act n e2).tmps j := by
        unfold yielded
        cases hs : (l0.toArray[j]?).bind (·.dst) with
        | none => rfl
        | some t =>
          have ht : t ∈ o.looksAt l0.toArray := by
            unfold Oper.looksAt
            rw [hg]
            refine List.mem_append_right _ ?_
            simp only [hs]
            simp
          simp only [Option.bind_some, act, Array.getElem?_ofFn, h t ht]
      rw [hy]
  have key : ∀ (u : Value), updo e1 o.dst u = updo e1 o.dst v → updo e2 o.dst u = updo e2 o.dst v := by
    intro u hu
    have hdc : o.dst = none ∨ ∃ d, o.dst = some d := by cases o.dst <;> simp
    rcases hdc with hd | ⟨d, hd⟩
    · rw [hd]; rfl
    · rw [hd] at hu ⊢
      have := congrFun hu d
      have : u = v := by simpa [updo, upd] using this
      rw [this]
  unfold ow at h1 ⊢
  rw [← hwant]
  split
  · rename_i hw
    rw [if_pos hw] at h1
    unfold opW at h1 ⊢
    rw [← hop]
    generalize (execOp (ev n e1) o).run P w = r at h1 ⊢
    cases r with
    | halt x w' => exact h1.elim
    | ok nx w' =>
      cases nx with
      | value u => exact ⟨key u h1.1, h1.2⟩
      | skip => exact ⟨key _ h1.1, h1.2⟩
      | enter f args =>
        refine Calls.mono h1 fun x w'' hx => ?_
        cases x with
        | returned u => exact ⟨key u hx.1, hx.2⟩
        | _ => exact hx
      | _ => exact h1.elim
  · rename_i hw
    rw [if_neg hw] at h1
    exact ⟨key _ h1.1, h1.2⟩

/-- THE FIRST m OPERATIONS QUIET IN THE CLASS C, THE REST IN THE ORDER OF THE TEXT -/
theorem k_quiet {id : Nat} {l : List Oper} (m : Nat) (C : World → Prop) (hm : P.follows .mixedOrders = true) (hb : backB 0 l = true) (ht : tailB m 0 l = true) (ho : ownB (dsts (l.take m)) = true) (hr : readB l m 0 (l.take m) = true)
    (hC : C w.drew) (h : qw P n l C (fun e' => ∀ w', C w' → ow P n l (kw P n R k) (l.drop m) e' w') (l.take m) e) :
    kw P n R (.code (.region id l.toArray true) :: k) e w := by
  obtain ⟨v, hv, hK⟩ := qw_vals _ _ h
  have hslot : ∀ i, i < m → slotOf (l.take m) i = slotOf l i := by
    intro i hi
    rw [← slotOf_eq, ← slotOf_eq, List.getElem?_take, if_pos hi]
  have hlen : (l.take m).length ≤ m := by rw [List.length_take]; omega
  have hown : ∀ i j d, i < m → j < m → slotOf l i = some d → slotOf l j = some d → i = j := by
    intro i j d hi hj h1 h2
    have conv : ∀ i, i < m → slotOf l i = some d → (dsts (l.take m))[i]? = some (some d) := by
      intro i hi h1
      rw [← slotOf_eq] at h1
      cases hl : l[i]? with
      | none => rw [hl] at h1; simp at h1
      | some o => rw [hl] at h1; simp at h1; simp [dsts, List.getElem?_take, hi, hl, h1]
    exact ownB_spec _ ho i j d (conv i hi h1) (conv j hj h2)
  -- what the environment in text order holds
  have henv : ∀ i, i ≤ m → ∀ t, (∀ j, j < i → slotOf l j ≠ some t) → envAt (l.take m) v e i t = e t := by
    intro i
    induction i with
    | zero => intro _ t _; rfl
    | succ i ih =>
      intro hi t h
      show updo (envAt (l.take m) v e i) (slotOf (l.take m) i) (v i) t = e t
      rw [hslot i (by omega)]
      cases hs : slotOf l i with
      | none => exact ih (by omega) t (fun j hj => h j (by omega))
      | some d =>
        have hne : t ≠ d := fun hh => h i (by omega) (by rw [hs, hh])
        show upd _ d (v i) t = e t
        unfold upd
        rw [beqf hne]
        exact ih (by omega) t (fun j hj => h j (by omega))
  have hval : ∀ i, i ≤ m → ∀ j, j < i → ∀ t, slotOf l j = some t → envAt (l.take m) v e i t = v j := by
    intro i
    induction i with
    | zero => intro _ j hj; omega
    | succ i ih =>
      intro hi j hj t hs
      show updo (envAt (l.take m) v e i) (slotOf (l.take m) i) (v i) t = v j
      rw [hslot i (by omega)]
      by_cases hji : j = i
      · subst hji
        rw [hs]
        simp [updo, upd]
      · cases hsi : slotOf l i with
        | none => exact ih (by omega) j (by omega) t hs
        | some d =>
          have hne : t ≠ d := fun hh => hji (hown j i d (by omega) (by omega) (by rw [hs, hh]) hsi)
          show upd _ d (v i) t = v j
          unfold upd
          rw [beqf hne]
          exact ih (by omega) j (by omega) t hs
  refine k_any m (fun w w' => C w → C w') (fun i u _ => slotOf l i = none ∨ u = v i) hm hb ht ho hr (fun _ h => h) (fun _ _ _ h1 h2 h => h2 (h1 h)) (fun _ _ _ _ h _ => h) ?_ ?_
  · intro i o him hl e' w' hL hA hD
    have hlm : (l.take m)[i]? = some o := by rw [List.getElem?_take, if_pos him]; exact hl
    obtain ⟨h1, h2, h3⟩ := readB_spec l m _ 0 hr i o hlm
    rw [Nat.zero_add] at h1
    have hcg := ow_congr (e1 := envAt (l.take m) v e i) (e2 := e') h2 (fun t htl => ?_) (hv i o hlm w' (hL hC))
    · refine ow_mono ?_ hcg
      rintro e2 w2 ⟨rfl, hC2⟩
      refine ⟨fun _ => hC2, ?_⟩
      rw [slotOf_dst hl]
      cases o.dst with
      | none => exact .inl rfl
      | some d => right; simp [rdo, updo, upd]
    · by_cases hex : ∃ j, j < m ∧ slotOf l j = some t
      · obtain ⟨j, hjm, hs⟩ := hex
        have hji : j ≠ i := by
          rintro rfl
          rw [slotOf_dst hl] at hs
          exact h3 t hs htl
        have hjd := h1 j t hjm hji hs htl
        have hlt := backB_spec l 0 hb i o hl j hjd
        rw [hval i (by omega) j (by omega) t hs]
        rcases hD j hjd t hs with hn | hn
        · rw [hs] at hn; cases hn
        · exact hn.symm
      · have hno : ∀ j, j < m → slotOf l j ≠ some t := fun j hj hs => hex ⟨j, hj, hs⟩
        rw [henv i (by omega) t (fun j hj => hno j (by omega)), hA t hno]
  · intro e' w' hL hA hV
    have heq : e' = envAt (l.take m) v e (l.take m).length := by
      funext t
      by_cases hex : ∃ j, j < m ∧ slotOf l j = some t
      · obtain ⟨j, hjm, hs⟩ := hex
        have hjl : j < (l.take m).length := by
          rw [List.length_take]
          rw [← slotOf_eq] at hs
          cases hl : l[j]? with
          | none => rw [hl] at hs; simp at hs
          | some o => have := (List.getElem?_eq_some_iff.1 hl).1; omega
        rw [hval _ hlen j hjl t hs]
        rcases hV j hjm t hs with hn | hn
        · rw [hs] at hn; cases hn
        · exact hn
      · have hno : ∀ j, j < m → slotOf l j ≠ some t := fun j hj hs => hex ⟨j, hj, hs⟩
        rw [henv _ hlen t (fun j hj => hno j (by omega)), hA t hno]
    rw [heq]
    exact hK w' (hL hC)

/-- the class: nothing that was there has turned -/
theorem k_qk {id : Nat} {l : List Oper} (m : Nat) (hm : P.follows .mixedOrders = true) (hb : backB 0 l = true) (ht : tailB m 0 l = true) (ho : ownB (dsts (l.take m)) = true) (hr : readB l m 0 (l.take m) = true)
    (h : qw P n l (fun w' => Keep [] w w') (fun e' => ∀ w', Keep [] w w' → ow P n l (kw P n R k) (l.drop m) e' w') (l.take m) e) :
    kw P n R (.code (.region id l.toArray true) :: k) e w := k_quiet m (fun w' => Keep [] w w') hm hb ht ho hr (Keep.refl [] w).drew h

/-- the class: the very world, but for draws -/
theorem k_q1 {id : Nat} {l : List Oper} (m : Nat) (hm : P.follows .mixedOrders = true) (hb : backB 0 l = true) (ht : tailB m 0 l = true) (ho : ownB (dsts (l.take m)) = true) (hr : readB l m 0 (l.take m) = true)
    (h : qw P n l (fun w' => w' = w.drew) (fun e' => ∀ w', w' = w.drew → ow P n l (kw P n R k) (l.drop m) e' w') (l.take m) e) :
    kw P n R (.code (.region id l.toArray true) :: k) e w := k_quiet m (fun w' => w' = w.drew) hm hb ht ho hr rfl h

/-- a slot that none of the first m operations writes -/
def freeB (l : List Oper) (m t : Nat) : Bool := (dsts (l.take m)).all (fun x => match x with | some y => !(Nat.beq t y) | none => true)
theorem free_of {l : List Oper} {m t : Nat} (h : freeB l m t = true) : ∀ j, j < m → slotOf l j ≠ some t := by
  intro j hj hs
  rw [← slotOf_eq] at hs
  cases hl : l[j]? with
  | none => rw [hl] at hs; simp at hs
  | some o =>
    rw [hl] at hs
    simp at hs
    have := List.all_eq_true.1 h (some t) (List.mem_of_getElem? (i := j) (by simp [dsts, List.getElem?_take, hj, hl, hs]))
    simp at this

theorem o_gen {l0 l : List Oper} {K : Env → World → Prop} (L : List (Nat × Value)) (h : Has L e) (H : ∀ e, ow P n l0 K l (ovr L e) w) : ow P n l0 K l e w := by
  have := H e
  rwa [ovr_self h] at this

end E
end Go.Proofs.YtiapgmfooclpcaaDoor

/- More rules of the engine: an operation whose guard waits for one that was left out is left out too. No condition. -/
namespace Go.Proofs.YtiapgmfooclpcaaDoor
open Go.RowKit
set_option linter.unusedVariables false
set_option linter.unusedSimpArgs false
namespace E

variable {P : Program} {n : Nat} {K : Env → World → Prop} {l l0 : List Oper} {e : Env} {w : World} {d : Option Nat} {op : Op} {T : TypeId} {pos : String} {af : Array Edge}

theorem yielded_un {j t : Nat} (hs : slotOf l0 j = some t) (hv : ev n e (.tmp t) = undef) : yielded l0.toArray (act n e).tmps j = none := by
  unfold yielded
  rw [List.getElem?_toArray, slotOf_eq, hs]
  simp only [ev] at hv
  cases hb : Nat.blt t n with
  | false =>
    have ht : ¬ t < n := by intro h; rw [← Nat.blt_eq] at h; rw [h] at hb; exact absurd hb (by decide)
    simp [act, ht, undef]
  | true =>
    rw [hb] at hv
    simp only [cond_true] at hv
    have ht : t < n := by rw [Nat.blt_eq] at hb; exact hb
    simp [act, ht, hv, undef]
theorem g_un {j t : Nat} {b : Bool} (hs : slotOf l0 j = some t) (hv : ev n e (.tmp t) = undef) (h : ow P n l0 K l (updo e d undef) w) :
    ow P n l0 K (⟨d, op, T, pos, af, some (j, b)⟩ :: l) e w := by
  unfold ow
  rw [if_neg (by simp [Region.wanted, yielded_un hs hv])]
  exact h

end E
end Go.Proofs.YtiapgmfooclpcaaDoor

/- append(s, make([]T, n)...): noughts behind a slice that owns its block. No condition. -/
namespace Go.Proofs.YtiapgmfooclpcaaDoor
open Go.RowKit
set_option linter.unusedVariables false
set_option linter.unusedSimpArgs false
namespace E
variable {P : Program} {n : Nat} {e : Env} {w : World} {l0 l : List Oper} {K : Env → World → Prop} {d : Nat} {T : TypeId} {pos : String} {af : Array Edge} {op : Op} {x y : Operand} {TX TY : TypeId}

theorem run_ext_grow (t u ty e : TypeId) (i : TypeInfo) (z : Value) (ht : P.underlying t = some (.slice e)) (hu : P.underlying u = some (.int .i64)) (hi : P.info? e = some i) (hz : i.zero = some z)
    (b : Addr) (sLen sCap : Nat) (olds : List Value) (hlo : olds.length = sLen * i.size) (holds : ∀ j v, olds[j]? = some v → w.cell? (b.add j) = some v)
    (n : Nat) (hs : i.size = 1) (hn0 : 0 < n)
    (hg : sCap < sLen + n) (h63 : ((sLen + n : Nat) : Int) ≤ 9223372036854775807) (hb : (n : Int) * i.bytes ≤ 281474976710656) (hfit : Builtin.nextslicecap (sLen + n) sCap * i.bytes ≤ 281474976710656) :
    (Builtin.append_ #[t, u] ty #[.slice (some b) sLen sCap, .int .i64 (n : Int)]).run P w =
      .ok (.slice (some ⟨w.heap.size, 0, none⟩) (sLen + n) (grownCap w (sLen + n) sCap e))
        (w.drew.alloc (.cells (olds.toArray ++ Builtin.zeroCells z.cells n ++ Builtin.zeroCells z.cells (grownCap w (sLen + n) sCap e - (sLen + n))) e)) := by
  have hn : ¬ (sLen + n ≤ sCap) := by omega
  have h63' : ¬ (9223372036854775807 < ((sLen : Int) + (n : Int))) := by omega
  have h48' : ¬ (281474976710656 < Builtin.nextslicecap (sLen + n) sCap * i.bytes) := by omega
  have hw : IntKind.i64.wrap (n : Int) = n := IntWalk.i64_in _ (by omega)
  have hneg : ¬ ((n : Int) < 0) := by omega
  have hb' : ¬ (281474976710656 < (n : Int) * i.bytes) := by omega
  have hnz : ¬ (n = 0) := by omega
  have hfo := run_firstCells_some (P := P) w.drew i.size sLen b sLen sCap olds hlo (by simpa using holds)
  rw [hs] at hfo
  simp [Builtin.append_, run_underlying ht, run_underlying hu, asInt, asIntOf, hw, hneg, hb', sizeOf, typeInfo, zeroValue, hi, hz, hn, h63', h48', Question.forced, hfo, newRow, grownCap, hs, hnz]
theorem run_ext_room (t u ty e : TypeId) (i : TypeInfo) (z : Value) (ht : P.underlying t = some (.slice e)) (hu : P.underlying u = some (.int .i64)) (hi : P.info? e = some i) (hz : i.zero = some z)
    (g sLen sCap n : Nat) (cur : Array Value) (hg : w.heap[g]? = some (.cells cur e (0, 0))) (hs : i.size = 1) (hn0 : 0 < n) (hroom : sLen + n ≤ sCap) (h63 : (n : Int) ≤ 9223372036854775807) (hb : (n : Int) * i.bytes ≤ 281474976710656)
    (h1 : ∀ u ∈ (Builtin.zeroCells z.cells n).toList, u.oneCell' = true) (hfit : sLen + (Builtin.zeroCells z.cells n).toList.length ≤ cur.size) :
    (Builtin.append_ #[t, u] ty #[.slice (some ⟨g, 0, none⟩) sLen sCap, .int .i64 (n : Int)]).run P w = .ok (.slice (some ⟨g, 0, none⟩) (sLen + n) sCap) (w.setRow g (cur.toList.take sLen ++ (Builtin.zeroCells z.cells n).toList ++ cur.toList.drop (sLen + (Builtin.zeroCells z.cells n).toList.length)).toArray) := by
  have hst := run_storeCells_at P g sLen e (Builtin.zeroCells z.cells n).toList 0 cur w hg (by simpa using hfit) h1
  simp only [Nat.add_zero] at hst
  have hw : IntKind.i64.wrap (n : Int) = n := IntWalk.i64_in _ (by omega)
  have hneg : ¬ ((n : Int) < 0) := by omega
  have hb' : ¬ (281474976710656 < (n : Int) * i.bytes) := by omega
  have hnz : ¬ (n = 0) := by omega
  simp [Builtin.append_, run_underlying ht, run_underlying hu, asInt, asIntOf, hw, hneg, hb', sizeOf, typeInfo, zeroValue, hi, hz, hroom, hs, hnz, Addr.add_lit, hst]
theorem zeros_one (z : Value) (k : Nat) : (Builtin.zeroCells #[z] k).toList = List.replicate k z := by
  apply List.ext_getElem
  · simp [Builtin.zeroCells]
  · intro i h1 h2
    simp [Builtin.zeroCells]
    rw [Nat.mod_one]; rfl
/-- append(s, make([]T, k)...) on a slice that has a block of its own; elements of one cell -/
theorem o_ext {E : TypeId} {bytes : Nat} {z : Value} (hu : P.underlying TX = some (.slice E)) (hty : P.underlying TY = some (.int .i64)) (hi : infB P E 1 bytes z) (hzc : z.cells = #[z]) (hz1 : z.oneCell' = true)
    {a : Addr} {m c k : Nat} {xs : List Value} (hx : ev n e x = .slice (some a) m c) (hy : ev n e y = .int .i64 (k : Int)) (ho : Sl w E 1 (some a) m c xs)
    (h63 : m + k ≤ maxLen) (hby : (m + k) * bytes ≤ 140737488355328)
    (h : ∀ a2 c2 w', Sl w' E 1 a2 (m + k) c2 (xs ++ List.replicate k z) → Keep [a.block] w w' → ((a2 = some a ∧ w'.heap.size = w.heap.size) ∨ (∃ g, a2 = some ⟨g, 0, none⟩ ∧ w.heap.size = g ∧ w'.heap.size = g + 1)) → ow P n l0 K l (upd e d (.slice a2 (m + k) c2)) w') :
    ow P n l0 K (⟨some d, .call ⟨.builtin .append, #[x, y], #[TX, TY]⟩, T, pos, af, none⟩ :: l) e w := by
  obtain ⟨i, hi1, hsz, rfl, hz⟩ := hi
  have hsmall : m + k ≤ 9223372036854775807 := by simp only [maxLen] at h63; omega
  have hkb : (k : Int) * i.bytes ≤ 281474976710656 := by
    have h1 : k * i.bytes ≤ (m + k) * i.bytes := Nat.mul_le_mul_right _ (by omega)
    have h2 : ((k * i.bytes : Nat) : Int) ≤ 281474976710656 := by omega
    rwa [Int.natCast_mul] at h2
  rcases ho.2 with ⟨h0, _⟩ | ⟨g, cur, hga, hb, hle, hcap, hcs, htake⟩
  · simp at h0
  obtain rfl : a = ⟨g, 0, none⟩ := by simpa using hga
  have hlen : (xs ++ List.replicate k z).length = m + k := by simp [ho.1]
  by_cases hk : k = 0
  · subst hk
    refine o_run (v := .slice (some ⟨g, 0, none⟩) (m + 0) c) (w' := w) ?_ (h _ _ _ (by simpa using ho) (Keep.refl _ _) (.inl ⟨rfl, rfl⟩))
    have hw : IntKind.i64.wrap 0 = 0 := by decide
    simp [execOp, resolve, invoke, builtin, hx, hy, Builtin.append_, run_underlying hu, run_underlying hty, asInt, asIntOf, hw, sizeOf, typeInfo, hi1, hle, storeCells]
  · by_cases hroom : m + k ≤ c
    · have hr := run_ext_room (P := P) (w := w) TX TY T E i z hu hty hi1 hz g m c k cur hb hsz (by omega) hroom (by omega) hkb (by rw [hzc, zeros_one]; intro u hu'; rw [(List.mem_replicate.1 hu').2]; exact hz1) (by rw [hzc, zeros_one]; simp; omega)
      rw [hzc, zeros_one] at hr
      refine o_run (v := .slice (some ⟨g, 0, none⟩) (m + k) c) (w' := _) (by simp [execOp, resolve, invoke, builtin, hx, hy, hr]; rfl) (h _ _ _ ⟨by rw [hlen, Nat.mul_one], .inr ⟨g, _, rfl, setRow_heap w g cur _ E _ hb, hroom, hcap, ?_, ?_⟩⟩ ⟨rfl, rfl, rfl, by simp, fun j _ hj => setRow_other w g j _ (by simpa using hj)⟩ (.inl ⟨rfl, by simp⟩))
      · simp only [List.size_toArray, List.length_append, List.length_take, List.length_drop, Array.length_toList, List.length_replicate]
        omega
      · rw [Nat.mul_one] at htake
        rw [htake, Nat.mul_one, ← hlen]
        simp only [← List.append_assoc]
        exact List.take_left
    · have holds : ∀ j u, xs[j]? = some u → w.cell? ((⟨g, 0, none⟩ : Addr).add j) = some u := by
        intro j u hj
        obtain ⟨b2, o2, he, hc⟩ := ho.rd j u hj
        simp at he
        obtain ⟨rfl, rfl⟩ := he
        rw [Addr.add_lit]
        exact hc
      have hge := grownCap_ge w (m + k) c E
      have hcm := grownCap_le_maxLen w (m + k) c E h63
      have hr := run_ext_grow (P := P) (w := w) TX TY T E i z hu hty hi1 hz ⟨g, 0, none⟩ m c xs (by rw [hsz]; exact ho.1) holds k hsz (by omega) (by omega) (by omega) hkb (growslice_fits (by omega) hby)
      refine o_run (v := .slice (some ⟨w.heap.size, 0, none⟩) (m + k) (grownCap w (m + k) c E)) (w' := _) (by simp [execOp, resolve, invoke, builtin, hx, hy, hr]; rfl) (h _ _ _ ⟨by rw [hlen, Nat.mul_one], .inr ⟨w.heap.size, _, rfl, heap_alloc_new w.drew _, hge, hcm, ?_, ?_⟩⟩ ⟨rfl, rfl, rfl, by simp, fun j hj _ => Below.heap_alloc w.drew _ j hj⟩ (.inr ⟨_, rfl, rfl, by simp⟩))
      · have := ho.1
        simp [size_zeroCells, hzc]
        omega
      · simp only [Array.toList_append, hzc, zeros_one, Nat.mul_one]
        rw [← hlen, ← List.append_assoc]
        exact List.take_left
end E
end Go.Proofs.YtiapgmfooclpcaaDoor

/- From what the frame of a law is told of its arguments to what the walks ask; from a walk to the frame's own form. No condition. -/
namespace Go.Proofs.YtiapgmfooclpcaaDoor
open Go.RowKit
set_option linter.unusedVariables false
set_option linter.unusedSimpArgs false
namespace E

/-- a law's walk in the frame's form -/
theorem law_calls {P : Program} {f : FuncId} {args : List Value} {w : World} (h : Ret P f args w (fun v w' => v = .bool true ∧ Keep [] w w')) :
    Calls P f args.toArray w (fun e w' => e = .returned (.bool true) ∧ Below w.heap.size w w') :=
  Calls.mono h.calls fun e w' ⟨v, he, hv, hk⟩ => ⟨by rw [he, hv], hk.below⟩

/-- the frame's word on a slice of integers -/
def Row (k : IntKind) (w : World) (a : Option Addr) (len cap : Nat) (zs : List Int) : Prop :=
  (a = none ∧ len = 0 ∧ cap = 0 ∧ zs = []) ∨
  ∃ x, a = some x ∧ len ≤ cap ∧ cap ≤ maxLen ∧ zs.length = cap ∧ (∀ i, i < zs.length → w.cell? (x.add i) = some (.int k (zs.getD i 0))) ∧ ∀ n ∈ zs, (Lit.int k n).wf = true

theorem spot_none {w : World} {p : Addr} {v : Value} (h : w.cell? p = some v) : p.spot = none := by
  unfold World.cell? at h
  split at h
  · split at h
    · cases h
    · rename_i hs
      cases hp : p.spot with
      | none => rfl
      | some _ => rw [hp] at hs; simp at hs
  · cases h

theorem row_cells {k : IntKind} {w : World} {a : Option Addr} {len cap : Nat} {zs : List Int} (h : Row k w a len cap zs) :
    (zs.take len).length = len ∧ len ≤ cap ∧ cap ≤ 9223372036854775807 ∧ Rd w a ((zs.take len).map (Value.int k)) ∧ ∀ z ∈ zs.take len, (Lit.int k z).wf = true := by
  rcases h with ⟨rfl, rfl, rfl, rfl⟩ | ⟨x, rfl, hl, hm, hz, hc, hw⟩
  · exact ⟨rfl, Nat.le_refl _, by omega, Rd.nil _ _, by simp⟩
  · refine ⟨by rw [List.length_take]; omega, hl, by simpa [maxLen] using hm, ?_, fun z hz => hw z (List.mem_of_mem_take hz)⟩
    intro i v hv
    rw [List.getElem?_map, List.getElem?_take] at hv
    by_cases hi : i < len
    · rw [if_pos hi, List.getElem?_eq_getElem (by omega)] at hv
      simp at hv
      have h0 := hc 0 (by omega)
      have hsp : x.spot = none := spot_none (by rw [show x.add 0 = x from by simp [Addr.add]] at h0; exact h0)
      obtain ⟨b, o, sp⟩ := x
      simp at hsp
      subst hsp
      refine ⟨b, o, rfl, ?_⟩
      have hci := hc i (by omega)
      rw [Addr.add_lit] at hci
      rw [hci, ← hv]
      simp [show i < zs.length by omega]
    · rw [if_neg hi] at hv
      simp at hv

def u8v (b : BitVec 8) : Value := .int .u8 (b.toNat : Int)
theorem row_u8 {w : World} {a : Option Addr} {len cap : Nat} {zs : List Int} (h : Row .u8 w a len cap zs) :
    ∃ l : List (BitVec 8), l.length = len ∧ len ≤ cap ∧ cap ≤ 9223372036854775807 ∧ Rd w a (l.map u8v) := by
  obtain ⟨h1, h2, h3, h4, h5⟩ := row_cells h
  refine ⟨(zs.take len).map (BitVec.ofInt 8), by rw [List.length_map]; exact h1, h2, h3, ?_⟩
  have he : ((zs.take len).map (BitVec.ofInt 8)).map u8v = (zs.take len).map (Value.int .u8) := by
    rw [List.map_map]
    apply List.map_congr_left
    intro z hz
    have hw := h5 z hz
    simp only [Function.comp, u8v, BitVec.toNat_ofInt]
    have : 0 ≤ z ∧ z < 256 := by
      simp [Lit.wf, IntKind.min, IntKind.max, IntKind.signed, IntKind.bits] at hw
      omega
    congr 1
    omega
  rw [he]
  exact h4

def u16v (b : BitVec 16) : Value := .int .u16 (b.toNat : Int)
theorem row_u16 {w : World} {a : Option Addr} {len cap : Nat} {zs : List Int} (h : Row .u16 w a len cap zs) :
    ∃ l : List (BitVec 16), l.length = len ∧ len ≤ cap ∧ cap ≤ 9223372036854775807 ∧ Rd w a (l.map u16v) := by
  obtain ⟨h1, h2, h3, h4, h5⟩ := row_cells h
  refine ⟨(zs.take len).map (BitVec.ofInt 16), by rw [List.length_map]; exact h1, h2, h3, ?_⟩
  have he : ((zs.take len).map (BitVec.ofInt 16)).map u16v = (zs.take len).map (Value.int .u16) := by
    rw [List.map_map]
    apply List.map_congr_left
    intro z hz
    have hw := h5 z hz
    simp only [Function.comp, u16v, BitVec.toNat_ofInt]
    have : 0 ≤ z ∧ z < 65536 := by
      simp [Lit.wf, IntKind.min, IntKind.max, IntKind.signed, IntKind.bits] at hw
      omega
    congr 1
    omega
  rw [he]
  exact h4

def u32v (b : BitVec 32) : Value := .int .u32 (b.toNat : Int)
theorem row_u32 {w : World} {a : Option Addr} {len cap : Nat} {zs : List Int} (h : Row .u32 w a len cap zs) :
    ∃ l : List (BitVec 32), l.length = len ∧ len ≤ cap ∧ cap ≤ 9223372036854775807 ∧ Rd w a (l.map u32v) := by
  obtain ⟨h1, h2, h3, h4, h5⟩ := row_cells h
  refine ⟨(zs.take len).map (BitVec.ofInt 32), by rw [List.length_map]; exact h1, h2, h3, ?_⟩
  have he : ((zs.take len).map (BitVec.ofInt 32)).map u32v = (zs.take len).map (Value.int .u32) := by
    rw [List.map_map]
    apply List.map_congr_left
    intro z hz
    have hw := h5 z hz
    simp only [Function.comp, u32v, BitVec.toNat_ofInt]
    have : 0 ≤ z ∧ z < 4294967296 := by
      simp [Lit.wf, IntKind.min, IntKind.max, IntKind.signed, IntKind.bits] at hw
      omega
    congr 1
    omega
  rw [he]
  exact h4

def u64v (b : BitVec 64) : Value := .int .u64 (b.toNat : Int)
theorem row_u64 {w : World} {a : Option Addr} {len cap : Nat} {zs : List Int} (h : Row .u64 w a len cap zs) :
    ∃ l : List (BitVec 64), l.length = len ∧ len ≤ cap ∧ cap ≤ 9223372036854775807 ∧ Rd w a (l.map u64v) := by
  obtain ⟨h1, h2, h3, h4, h5⟩ := row_cells h
  refine ⟨(zs.take len).map (BitVec.ofInt 64), by rw [List.length_map]; exact h1, h2, h3, ?_⟩
  have he : ((zs.take len).map (BitVec.ofInt 64)).map u64v = (zs.take len).map (Value.int .u64) := by
    rw [List.map_map]
    apply List.map_congr_left
    intro z hz
    have hw := h5 z hz
    simp only [Function.comp, u64v, BitVec.toNat_ofInt]
    have : 0 ≤ z ∧ z < 18446744073709551616 := by
      simp [Lit.wf, IntKind.min, IntKind.max, IntKind.signed, IntKind.bits] at hw
      omega
    congr 1
    omega
  rw [he]
  exact h4

theorem row_i64 {w : World} {a : Option Addr} {len cap : Nat} {zs : List Int} (h : Row .i64 w a len cap zs) :
    ∃ l : List Int, l.length = len ∧ len ≤ cap ∧ cap ≤ 9223372036854775807 ∧ Rd w a (l.map (Value.int .i64)) ∧ ∀ z ∈ l, -9223372036854775808 ≤ z ∧ z ≤ 9223372036854775807 := by
  obtain ⟨h1, h2, h3, h4, h5⟩ := row_cells h
  refine ⟨zs.take len, h1, h2, h3, h4, fun z hz => ?_⟩
  have hw := h5 z hz
  simp [Lit.wf, IntKind.min, IntKind.max, IntKind.signed, IntKind.bits] at hw
  omega

/-! ### arguments opened -/
section
variable {H : Type} {enc : TypeId × Value → H} {P : Program} {W : World} {base : Nat}

theorem op_lt {t : TypeId} {v : Value} {d : DataW H} {p : List MemPlace} (h : DataW.Trod enc P W 0 (fun _ => true) true t v d p) : ∀ x ∈ p, x.block < W.heap.size := by
  obtain ⟨m, hm⟩ := h
  exact DataW.trod_lt m _ _ _ hm

theorem op_int {t : TypeId} {k : IntKind} {v : Value} {d : DataW H} {p : List MemPlace} (ht : P.underlying t = some (.int k)) (hok : Value.okWide P W .any base t v) (h : DataW.Trod enc P W 0 (fun _ => true) true t v d p) :
    ∃ a, v = .int k a ∧ k.min ≤ a ∧ a ≤ k.max := by
  obtain ⟨a, h1, _, _, hw⟩ := ChangeShapes.open_int ht hok h
  simp only [Lit.wf, Bool.and_eq_true, decide_eq_true_eq] at hw
  exact ⟨a, h1, hw⟩

theorem op_bool {t : TypeId} {v : Value} {d : DataW H} {p : List MemPlace} (ht : P.underlying t = some .bool) (hok : Value.okWide P W .any base t v) (h : DataW.Trod enc P W 0 (fun _ => true) true t v d p) :
    ∃ a, v = .bool a := by
  obtain ⟨a, h1, _⟩ := RowKit.open_bool ht hok h
  exact ⟨a, h1⟩

theorem op_row {t e : TypeId} {k : IntKind} {v : Value} {d : DataW H} {p : List MemPlace} (ht : P.underlying t = some (.slice e)) (he : P.underlying e = some (.int k)) (hc : P.cellsOf e = 1) (hok : Value.okWide P W .any base t v) (h : DataW.Trod enc P W 0 (fun _ => true) true t v d p)
    (hsz : ∀ elems spare, d = .slice elems spare → (elems.length + spare.length) * P.bytesOf e ≤ reachBytes) :
    ∃ a len cap zs, v = .slice a len cap ∧ Row k W a len cap zs ∧ cap * P.bytesOf e ≤ 140737488351232 := by
  obtain ⟨a, len, cap, rfl⟩ := WideShapes.okWide_slice ht hok
  obtain ⟨fuel, hf⟩ := h
  rcases ChangeShapes.open_ints ht he hc hf with ⟨hcs, _⟩ | ⟨x, l, c, zs, hcs, _, hl, hm, hz, hx, hcell, hwz⟩
  · simp [Value.cells] at hcs
    obtain ⟨rfl, rfl, rfl⟩ := hcs
    exact ⟨none, 0, 0, [], rfl, .inl ⟨rfl, rfl, rfl, rfl⟩, by omega⟩
  · simp [Value.cells] at hcs
    obtain ⟨rfl, rfl, rfl⟩ := hcs
    have hz' : zs.length = cap := by simpa using hz
    refine ⟨_, len, cap, zs, rfl, .inr ⟨_, rfl, hl, hm, hz', hcell, hwz⟩, ?_⟩
    have := hsz _ _ (congrArg Prod.fst hx)
    simp only [ChangeShapes.lits, List.length_map, List.length_take, List.length_drop, reachBytes] at this
    have e1 : min len zs.length + (zs.length - len) = cap := by omega
    rw [e1] at this
    exact this

theorem op_arr {t e : TypeId} {k : IntKind} {n : Nat} {v : Value} {d : DataW H} {p : List MemPlace} (ht : P.underlying t = some (.array n e)) (he : P.underlying e = some (.int k)) (hc : P.cellsOf e = 1) (hct : P.cellsOf t = n) (hok : Value.okWide P W .any base t v) (h : DataW.Trod enc P W 0 (fun _ => true) true t v d p) :
    ∃ zs : List Int, v = .agg (zs.map (Value.int k)).toArray ∧ zs.length = n ∧ ∀ z ∈ zs, k.min ≤ z ∧ z ≤ k.max := by
  simp only [Value.okWide, ht] at hok
  obtain ⟨cs, rfl, hsz, _⟩ := hok
  obtain ⟨fuel, hf⟩ := h
  obtain ⟨xs, m, _, _, hlen, hxl, hel⟩ := DataW.trod_array ht hf
  have hcl : cs.toList.length = n := by
    rw [Array.length_toList, hsz, hct]
  have each : ∀ i (hi : i < n), ∃ z, cs.toList[i]'(by omega) = .int k z ∧ k.min ≤ z ∧ z ≤ k.max := by
    intro i hi
    have h1 := hel i hi
    rw [hc, Nat.mul_one] at h1
    have h2 : ((Value.agg cs).cells.toList.drop i).take 1 = [cs.toList[i]'(by omega)] := by
      show (cs.toList.drop i).take 1 = _
      rw [List.drop_eq_getElem_cons (by omega)]
      rfl
    rw [h2] at h1
    cases hx : xs[i]? with
    | none => have := List.getElem?_eq_none_iff.1 hx; omega
    | some y =>
      rw [hx] at h1
      obtain ⟨a, e0, _, wa⟩ := DataW.trod_int he h1
      simp at e0
      refine ⟨a, by simpa using e0, ?_⟩
      simp only [Lit.wf, Bool.and_eq_true, decide_eq_true_eq] at wa
      exact wa
  refine ⟨List.ofFn (n := n) fun i => Classical.choose (each i.val i.isLt), ?_, by simp, ?_⟩
  · congr 1
    apply Array.ext
    · simp [hsz, hct]
    · intro i h1 h2
      have hi : i < n := by simpa using h2
      have := (Classical.choose_spec (each i hi)).1
      simpa using this
  · intro z hz
    obtain ⟨i, rfl⟩ := List.mem_ofFn.1 hz
    exact (Classical.choose_spec (each i.val i.isLt)).2

end

end E
end Go.Proofs.YtiapgmfooclpcaaDoor

/- The rules of the operations on maps: a map as a list of keys and values; keys that are integers or strings. No condition. -/
namespace Go.Proofs.YtiapgmfooclpcaaDoor
open Go.RowKit
set_option linter.unusedVariables false
set_option linter.unusedSimpArgs false
namespace E

/-- block r is a map that holds this list of keys and values -/
def Mp {κ : Type} (w : World) (r : Nat) (kv : κ → Value) (l : List (κ × Value)) : Prop :=
  ∃ es clock, w.heap[r]? = some (.map es clock) ∧ es.toList.map (fun x => (x.key, x.val)) = l.map (fun p => (kv p.1, p.2)) ∧ ∀ x ∈ es.toList, x.born < clock

theorem Mp.lt {κ : Type} {w : World} {r : Nat} {kv : κ → Value} {l : List (κ × Value)} (h : Mp w r kv l) : r < w.heap.size := by
  obtain ⟨es, clock, h, _⟩ := h
  exact (Array.getElem?_eq_some_iff.1 h).1
theorem Mp.keep {κ : Type} {S : List Nat} {w w' : World} {r : Nat} {kv : κ → Value} {l : List (κ × Value)} (h : Mp w r kv l) (hk : Keep S w w') (hn : r ∉ S) : Mp w' r kv l := by
  have hlt := h.lt
  obtain ⟨es, clock, h, he⟩ := h
  exact ⟨es, clock, (hk.block r hlt hn).trans h, he⟩

/-- a key type whose values are met at once -/
structure KeyOk (P : Program) (K : TypeId) {κ : Type} [DecidableEq κ] (kv : κ → Value) : Prop where
  check : ∀ (b : Bool) (x : κ) (w : World), (Instr.checkKey b 10000 K (kv x)).run P w = .ok () w
  find : ∀ (x : κ) (l : List MapEntry) (ks : List κ) (w : World), l.map (·.key) = ks.map kv →
    (Instr.findKey K (kv x) l).run P w = .ok ((ks.findIdx? (fun y => decide (x = y))).map (fun i => (i, (l.getD i default).val))) w
  bits : ∀ (x : κ), Instr.sameBits 10000 (kv x) (kv x) = true

def getM {κ : Type} [DecidableEq κ] (l : List (κ × Value)) (x : κ) : Option Value := (l.find? (fun p => decide (x = p.1))).map (·.2)
def putM {κ : Type} [DecidableEq κ] (l : List (κ × Value)) (x : κ) (v : Value) : List (κ × Value) :=
  match l with
  | [] => [(x, v)]
  | p :: l => if x = p.1 then (x, v) :: l else p :: putM l x v
def delM {κ : Type} [DecidableEq κ] (l : List (κ × Value)) (x : κ) : List (κ × Value) :=
  match l with
  | [] => []
  | p :: l => if x = p.1 then l else p :: delM l x

section
variable {κ : Type} [DecidableEq κ]
theorem getM_nil (x : κ) : getM ([] : List (κ × Value)) x = none := rfl
theorem getM_cons (p : κ × Value) (l : List (κ × Value)) (x : κ) : getM (p :: l) x = if x = p.1 then some p.2 else getM l x := by
  unfold getM
  rw [List.find?_cons]
  by_cases h : x = p.1 <;> simp [h]
theorem getM_put (l : List (κ × Value)) (x y : κ) (v : Value) : getM (putM l x v) y = if y = x then some v else getM l y := by
  induction l with
  | nil => simp [putM, getM_cons, getM_nil]
  | cons p l ih =>
    unfold putM
    by_cases h : x = p.1
    · rw [if_pos h, getM_cons, getM_cons]
      by_cases hy : y = x
      · simp [hy]
      · rw [if_neg hy, if_neg hy, if_neg (by rw [← h]; exact hy)]
    · rw [if_neg h, getM_cons, ih, getM_cons]
      by_cases hy : y = x
      · subst hy; simp [h]
      · simp [hy]
theorem findIdx_get (l : List (κ × Value)) (x : κ) (d : κ × Value) : ((l.map (·.1)).findIdx? (fun y => decide (x = y))).map (fun i => (l.getD i d).2) = getM l x := by
  induction l with
  | nil => rfl
  | cons p l ih =>
    rw [List.map_cons, List.findIdx?_cons, getM_cons]
    by_cases h : x = p.1
    · simp [h]
    · simp only [h, decide_false, if_false, Bool.false_eq_true, Option.map_map]
      rw [← ih]
      congr 1
end

variable {P : Program} {n : Nat} {e : Env} {w : World} {l0 l : List Oper} {K : Env → World → Prop} {d : Nat} {T : TypeId} {pos : String} {af : Array Edge} {op : Op} {x y : Operand} {TX TY : TypeId}

theorem Mp.keys {κ : Type} {l : List (κ × Value)} {kv : κ → Value} {es : Array MapEntry} (he : es.toList.map (fun x => (x.key, x.val)) = l.map (fun p => (kv p.1, p.2))) : es.toList.map (·.key) = (l.map (·.1)).map kv := by
  have := congrArg (List.map Prod.fst) he
  simpa [List.map_map, Function.comp_def] using this
theorem Mp.vals {κ : Type} {l : List (κ × Value)} {kv : κ → Value} {es : Array MapEntry} (he : es.toList.map (fun x => (x.key, x.val)) = l.map (fun p => (kv p.1, p.2))) (i : Nat) (h : i < l.length) (dd : κ × Value) : (es.toList.getD i default).val = (l.getD i dd).2 := by
  have hlen : es.toList.length = l.length := by have := congrArg List.length he; simpa using this
  have := congrArg (fun q => q[i]?) he
  simp only [List.getElem?_map] at this
  rw [List.getElem?_eq_getElem (by omega), List.getElem?_eq_getElem h] at this
  simp at this
  simp only [List.getD, List.getElem?_eq_getElem (show i < es.toList.length by omega), List.getElem?_eq_getElem h, Option.getD_some]
  simpa using this.2

theorem run_find {κ : Type} [DecidableEq κ] {kv : κ → Value} {KT : TypeId} (hk : KeyOk P KT kv) {l : List (κ × Value)} {es : Array MapEntry} (he : es.toList.map (fun x => (x.key, x.val)) = l.map (fun p => (kv p.1, p.2))) (x : κ) (w : World) :
    (Instr.findKey KT (kv x) es.toList).run P w = .ok (((l.map (·.1)).findIdx? (fun y => decide (x = y))).map (fun i => (i, (es.toList.getD i default).val))) w := hk.find x es.toList (l.map (·.1)) w (Mp.keys he)

theorem run_lookup {κ : Type} [DecidableEq κ] {kv : κ → Value} {KT E : TypeId} {sz by_ : Nat} {z : Value} (hu : P.underlying TX = some (.map KT E)) (hk : KeyOk P KT kv) (hz : infB P E sz by_ z) {r : Nat} {l : List (κ × Value)} (hm : Mp w r kv l) (x : κ) (ok : Bool) :
    (Instr.lookup TX (.map (some r)) (kv x) ok).run P w = .ok (if ok then .tuple #[(getM l x).getD z, .bool (getM l x).isSome] else (getM l x).getD z) w := by
  obtain ⟨es, clock, hh, he, hbn⟩ := hm
  obtain ⟨i, hi1, hi2, hi3, hi4⟩ := hz
  have hg : (getObj r).run P w = .ok (.map es clock) w := by simp [getObj, Sem.run, hh]
  have hf := run_find hk he x w
  cases hx : (l.map (·.1)).findIdx? (fun y => decide (x = y)) with
  | none =>
    have hn : getM l x = none := by rw [← findIdx_get l x (x, z), hx]; rfl
    rw [hx] at hf
    cases ok <;> simp [Instr.lookup, run_underlying hu, hg, hk.check, hf, zeroValue, typeInfo, hi1, hi4, hn]
  | some j =>
    have hj : j < l.length := by
      have := List.findIdx?_eq_some_iff_findIdx_eq.1 hx
      simpa using this.1
    have hs : getM l x = some (l.getD j (x, z)).2 := by rw [← findIdx_get l x (x, z), hx]; rfl
    rw [hx] at hf
    simp only [Option.map_some] at hf
    rw [Mp.vals he j hj (x, z)] at hf
    cases ok <;> simp only [Instr.lookup, Sem.run_bind, run_underlying hu, hg, hk.check, hf, hs, Result.andThen_ok, Sem.run_pure] <;> simp [hg, hk.check, hf, hs]

/-- m[k] -/
theorem o_look {κ : Type} [DecidableEq κ] {kv : κ → Value} {KT E : TypeId} {sz by_ : Nat} {z v : Value} {r : Nat} {m : List (κ × Value)} {q : κ} (hu : P.underlying TX = some (.map KT E)) (hk : KeyOk P KT kv) (hz : infB P E sz by_ z) (hx : ev n e x = .map (some r)) (hy : ev n e y = kv q) (hm : Mp w r kv m)
    (hv : (getM m q).getD z = v) (h : ow P n l0 K l (upd e d v) w) : ow P n l0 K (⟨some d, .lookup TX x y false, T, pos, af, none⟩ :: l) e w := by
  refine o_run (v := v) (w' := w) ?_ h
  subst hv
  simp [execOp, hx, hy, run_lookup hu hk hz hm q]
/-- v, ok := m[k] -/
theorem o_lookok {κ : Type} [DecidableEq κ] {kv : κ → Value} {KT E : TypeId} {sz by_ : Nat} {z v : Value} {b : Bool} {r : Nat} {m : List (κ × Value)} {q : κ} (hu : P.underlying TX = some (.map KT E)) (hk : KeyOk P KT kv) (hz : infB P E sz by_ z) (hx : ev n e x = .map (some r)) (hy : ev n e y = kv q) (hm : Mp w r kv m)
    (hv : (getM m q).getD z = v) (hb : (getM m q).isSome = b) (h : ow P n l0 K l (upd e d (.tuple #[v, .bool b])) w) : ow P n l0 K (⟨some d, .lookup TX x y true, T, pos, af, none⟩ :: l) e w := by
  refine o_run (v := .tuple #[v, .bool b]) (w' := w) ?_ h
  subst hv hb
  simp [execOp, hx, hy, run_lookup hu hk hz hm q]

theorem putM_at {κ : Type} [DecidableEq κ] {kv : κ → Value} {l : List (κ × Value)} {es : List MapEntry} (he : es.map (fun x => (x.key, x.val)) = l.map (fun p => (kv p.1, p.2))) (x : κ) (v : Value) :
    match (l.map (·.1)).findIdx? (fun y => decide (x = y)) with
    | some i => (es.modify i fun e => { e with key := kv x, val := v }).map (fun x => (x.key, x.val)) = (putM l x v).map (fun p => (kv p.1, p.2)) ∧ i < es.length ∧ (es.getD i default).key = kv x
    | none => ∀ c : Nat, (es ++ [(⟨kv x, v, c⟩ : MapEntry)]).map (fun x => (x.key, x.val)) = (putM l x v).map (fun p => (kv p.1, p.2)) := by
  induction l generalizing es with
  | nil =>
    have : es = [] := by simpa using he
    subst this
    simp [putM]
  | cons p l ih =>
    obtain ⟨e0, es', rfl⟩ : ∃ e0 es', es = e0 :: es' := by
      cases es with
      | nil => simp at he
      | cons a b => exact ⟨a, b, rfl⟩
    simp only [List.map_cons, List.cons.injEq, Prod.mk.injEq] at he
    have ihh := ih he.2
    rw [List.map_cons, List.findIdx?_cons]
    by_cases h : x = p.1
    · simp only [h, decide_true, if_true]
      refine ⟨?_, by simp, ?_⟩
      · simp [putM, he.2]
      · simp [he.1.1]
    · simp only [h, decide_false, if_false, Bool.false_eq_true]
      cases hx : (l.map (·.1)).findIdx? (fun y => decide (x = y)) with
      | none =>
        rw [hx] at ihh
        simp only [Option.map_none]
        intro c
        have := ihh c
        simp only [putM, if_neg h, List.cons_append, List.map_cons, he.1.1, he.1.2, this]
      | some i =>
        rw [hx] at ihh
        simp only [Option.map_some]
        refine ⟨?_, by simpa using ihh.2.1, by simpa using ihh.2.2⟩
        simp only [putM, if_neg h, List.modify_succ_cons, List.map_cons, he.1.1, he.1.2, ihh.1]

theorem run_setObj {r : Nat} {o o' : Obj} (h : w.heap[r]? = some o) (hc : ∀ c t f, o ≠ .cells c t f) : (setObj r o').run P w = .ok () { w with heap := w.heap.setIfInBounds r o' } := by
  cases o <;> first | exact absurd rfl (hc _ _ _) | simp [setObj, Sem.run, h]

theorem keep_setObj {r : Nat} {o' : Obj} : Keep [r] w { w with heap := w.heap.setIfInBounds r o' } :=
  ⟨rfl, rfl, rfl, by simp, fun k hk hn => by
    have : r ≠ k := fun e => hn (by simp [e])
    simp [Array.getElem?_setIfInBounds_ne this]⟩

/-- m[k] = v -/
theorem o_mput {κ : Type} [DecidableEq κ] {kv : κ → Value} {KT E : TypeId} {v : Value} {r : Nat} {m : List (κ × Value)} {q : κ} {u : Operand} (hu : P.underlying TX = some (.map KT E)) (hk : KeyOk P KT kv) (hx : ev n e x = .map (some r)) (hy : ev n e y = kv q) (hv : ev n e u = v) (hm : Mp w r kv m)
    (ho : op = .mapUpdate TX x y u ∨ op = .insert TX x y u)
    (h : ∀ w', Mp w' r kv (putM m q v) → Keep [r] w w' → w'.heap.size = w.heap.size → ow P n l0 K l e w') : ow P n l0 K (⟨none, op, T, pos, af, none⟩ :: l) e w := by
  obtain ⟨es, clock, hh, he, hbn⟩ := hm
  have hlt : r < w.heap.size := (Array.getElem?_eq_some_iff.1 hh).1
  have hg : (getObj r).run P w = .ok (.map es clock) w := by simp [getObj, Sem.run, hh]
  have hf := run_find hk he q w
  have hat := putM_at he q v
  have hset : ∀ o', (setObj r o').run P w = .ok () { w with heap := w.heap.setIfInBounds r o' } := fun o' => run_setObj hh (by intros; simp)
  have hexec : ∀ o', (Instr.mapUpdate TX (.map (some r)) (kv q) v).run P w = .ok () { w with heap := w.heap.setIfInBounds r o' } → (execOp (ev n e) ⟨none, op, T, pos, af, none⟩).run P w = .ok .skip { w with heap := w.heap.setIfInBounds r o' } := by
    intro o' hr
    rcases ho with rfl | rfl <;> simp [execOp, hx, hy, hv, hr]
  cases hi : (m.map (·.1)).findIdx? (fun y => decide (q = y)) with
  | none =>
    rw [hi] at hf hat
    refine o_runs (w' := { w with heap := w.heap.setIfInBounds r (.map (es.push ⟨kv q, v, clock⟩) (clock + 1)) }) (hexec _ ?_) (h _ ⟨es.push ⟨kv q, v, clock⟩, clock + 1, by simp [hlt], ?_, ?_⟩ keep_setObj (by simp))
    · simp only [Option.map_none] at hf
      simp only [Instr.mapUpdate, Sem.run_bind, run_underlying hu, hg, hk.check, hf, hset, Result.andThen_ok, Sem.run_pure]
    · simpa using hat clock
    · intro x hx
      simp at hx
      rcases hx with hx | rfl
      · have := hbn x (by simpa using hx); omega
      · simp
  | some i =>
    rw [hi] at hf hat
    obtain ⟨h1, h2, h3⟩ := hat
    refine o_runs (w' := { w with heap := w.heap.setIfInBounds r (.map (es.modify i fun e => { e with key := kv q, val := v }) clock) }) (hexec _ ?_) (h _ ⟨es.modify i fun e => { e with key := kv q, val := v }, clock, by simp [hlt], ?_, ?_⟩ keep_setObj (by simp))
    · simp only [Option.map_some] at hf
      have hst : Instr.keyThatStays (((es[i]?).map (·.key)).getD (kv q)) (kv q) = pure (kv q) := by
        have hkey : ((es[i]?).map (·.key)).getD (kv q) = kv q := by
          have hsz : i < es.size := by simpa using h2
          rw [Array.getElem?_eq_getElem hsz]
          simp only [List.getD, List.getElem?_eq_getElem h2, Option.getD_some] at h3
          simpa using h3
        rw [hkey]
        unfold Instr.keyThatStays
        rw [if_pos (hk.bits q)]
      simp only [Instr.mapUpdate, Sem.run_bind, run_underlying hu, hg, hk.check, hf, hst, hset, Result.andThen_ok, Sem.run_pure]
    · simpa using h1
    · intro x hx
      obtain ⟨j, hj, rfl⟩ := List.getElem_of_mem hx
      have hj' : j < es.toList.length := by simpa using hj
      have := hbn _ (List.getElem_mem hj')
      have hm : (es.modify i fun e => { e with key := kv q, val := v }).toList[j].born = es.toList[j].born := by
        simp only [Array.getElem_toList, Array.getElem_modify]
        split <;> rfl
      rw [hm]
      exact this

/-- make(map[K]V) -/
theorem o_mkmap {κ : Type} (kv : κ → Value) (h : ∀ r w', Mp w' r kv [] → Keep [] w w' → w.heap.size = r → w'.heap.size = r + 1 → ow P n l0 K l (upd e d (.map (some r))) w') :
    ow P n l0 K (⟨some d, .makeMap TX none, T, pos, af, none⟩ :: l) e w := by
  refine o_run (v := .map (some w.heap.size)) (w' := w.alloc (.map #[] 0)) ?_ (h _ _ ⟨#[], 0, heap_alloc_new w _, rfl, by simp⟩ (keep_alloc _ _ _) rfl (by simp))
  simp [execOp, Instr.makeMap]

/-- len(m) -/
theorem o_lenm {κ : Type} {kv : κ → Value} {KT E : TypeId} {r : Nat} {m : List (κ × Value)} (hu : P.underlying TX = some (.map KT E)) (hx : ev n e x = .map (some r)) (hm : Mp w r kv m) (h : ow P n l0 K l (upd e d (.int .i64 (m.length : Int))) w) :
    ow P n l0 K (⟨some d, .call ⟨.builtin .len, #[x], #[TX]⟩, T, pos, af, none⟩ :: l) e w := by
  obtain ⟨es, clock, hh, he, hbn⟩ := hm
  have hg : (getObj r).run P w = .ok (.map es clock) w := by simp [getObj, Sem.run, hh]
  have hl : es.size = m.length := by have := congrArg List.length he; simpa using this
  refine o_run (v := .int .i64 (m.length : Int)) (w' := w) ?_ h
  simp [execOp, resolve, invoke, builtin, hx, Builtin.len_, run_underlying hu, hg, goInt, hl]

theorem putM_new {κ : Type} [DecidableEq κ] : ∀ {l : List (κ × Value)} {x : κ} {v : Value}, getM l x = none → putM l x v = l ++ [(x, v)]
  | [], _, _, _ => rfl
  | p :: l, x, v, h => by
    rw [getM_cons] at h
    split at h
    · cases h
    · rename_i hx
      rw [putM, if_neg hx, putM_new h]; rfl
/-- the place of a new key -/
theorem o_mentry {κ : Type} [DecidableEq κ] {kv : κ → Value} {KT E : TypeId} {sz by_ : Nat} {z : Value} {r : Nat} {m : List (κ × Value)} {q : κ} {es : Array MapEntry} {clock : Nat} (hu : P.underlying TX = some (.map KT E)) (hk : KeyOk P KT kv) (hz : infB P E sz by_ z) (hx : ev n e x = .map (some r)) (hy : ev n e y = kv q)
    (hh : w.heap[r]? = some (.map es clock)) (he : es.toList.map (fun x => (x.key, x.val)) = m.map (fun p => (kv p.1, p.2))) (hn : getM m q = none)
    (h : ∀ w', w'.heap[r]? = some (.map (es.push ⟨kv q, z, clock⟩) (clock + 1)) → Keep [r] w w' → w'.heap.size = w.heap.size → ow P n l0 K l (upd e d (.tuple #[z, .int .i64 (clock : Int)])) w') : ow P n l0 K (⟨some d, .mapEntry TX x y, T, pos, af, none⟩ :: l) e w := by
  have hlt : r < w.heap.size := (Array.getElem?_eq_some_iff.1 hh).1
  have hg : (getObj r).run P w = .ok (.map es clock) w := by simp [getObj, Sem.run, hh]
  have hf := run_find hk he q w
  have hset : ∀ o', (setObj r o').run P w = .ok () { w with heap := w.heap.setIfInBounds r o' } := fun o' => run_setObj hh (by intros; simp)
  obtain ⟨i, hi1, hi2, hi3, hi4⟩ := hz
  have hnone : (m.map (·.1)).findIdx? (fun y => decide (q = y)) = none := by
    have := findIdx_get m q (q, z)
    rw [hn] at this
    simpa using this
  rw [hnone] at hf
  refine o_run (v := .tuple #[z, .int .i64 (clock : Int)]) (w' := { w with heap := w.heap.setIfInBounds r (.map (es.push ⟨kv q, z, clock⟩) (clock + 1)) }) ?_ (h _ (by simp [hlt]) keep_setObj (by simp))
  simp [execOp, hx, hy, Instr.mapEntry, run_underlying hu, hg, hk.check, hf, zeroValue, typeInfo, hi1, hi4, hset, goInt]
/-- what lies at the newest place is set -/
theorem o_estore {kq v0 v : Value} {r clock c2 : Nat} {es : Array MapEntry} {u : Operand} (hx : ev n e x = .map (some r)) (hy : ev n e y = .int .i64 (clock : Int)) (hv : ev n e u = v) (hh : w.heap[r]? = some (.map (es.push ⟨kq, v0, clock⟩) c2)) (hb : ∀ x ∈ es.toList, x.born < clock)
    (h : ∀ w', w'.heap[r]? = some (.map (es.push ⟨kq, v, clock⟩) c2) → Keep [r] w w' → w'.heap.size = w.heap.size → ow P n l0 K l e w') : ow P n l0 K (⟨none, .entryStore TX x y u, T, pos, af, none⟩ :: l) e w := by
  have hlt : r < w.heap.size := (Array.getElem?_eq_some_iff.1 hh).1
  have hg : (getObj r).run P w = .ok (.map (es.push ⟨kq, v0, clock⟩) c2) w := by simp [getObj, Sem.run, hh]
  have hset : ∀ o', (setObj r o').run P w = .ok () { w with heap := w.heap.setIfInBounds r o' } := fun o' => run_setObj hh (by intros; simp)
  have hfi : (es.push (⟨kq, v0, clock⟩ : MapEntry)).findIdx? (fun e => (e.born : Int) == (clock : Int)) = some es.size := by
    rw [Array.findIdx?_eq_some_iff_getElem]
    refine ⟨by simp, by simp, fun j hj => ?_⟩
    have hjs : j < es.size := by omega
    rw [Array.getElem_push_lt hjs]
    have := hb es[j] (by simp)
    simp
    omega
  have hmod : (es.push (⟨kq, v0, clock⟩ : MapEntry)).modify es.size (fun e => { e with val := v }) = es.push ⟨kq, v, clock⟩ := by
    apply Array.ext
    · simp
    · intro i h1 h2
      rw [Array.getElem_modify]
      simp only [Array.getElem_push]
      by_cases hi : i < es.size
      · have : ¬ es.size = i := by omega
        simp [hi, this]
      · have : es.size = i := by simp at h1; omega
        simp [hi, this]
  refine o_runs (w' := { w with heap := w.heap.setIfInBounds r (.map (es.push ⟨kq, v, clock⟩) c2) }) ?_ (h _ (by simp [hlt]) keep_setObj (by simp))
  simp [execOp, hx, hy, hv, Instr.entryStore, hg, asInt, asIntOf, hfi, hmod, hset]

/-! ### keys that are integers, strings -/
theorem findNow_int {k : IntKind} (a : Int) : ∀ (l : List MapEntry) (ks : List Int) (i : Nat), l.map (·.key) = ks.map (Value.int k) →
    Instr.findNow (.int k) (.int k a) l i = some ((ks.findIdx? (fun y => decide (a = y))).map (fun j => (i + j, (l.getD j default).val)))
  | [], ks, i, h => by
    have : ks = [] := by simpa using h.symm
    subst this
    rfl
  | x :: l, [], i, h => by simp at h
  | x :: l, b :: ks, i, h => by
    simp only [List.map_cons, List.cons.injEq] at h
    unfold Instr.findNow
    rw [h.1]
    simp only [Instr.sameNow, if_true]
    rw [List.findIdx?_cons]
    by_cases hab : a = b
    · simp [hab]
    · have : (a == b) = false := by simpa using hab
      rw [this, findNow_int a l ks (i + 1) h.2]
      simp only [hab, decide_false, if_false, Bool.false_eq_true, Option.map_map]
      congr 2
      funext j
      simp [Nat.add_assoc, Nat.add_comm 1 j]

theorem key_int {KT : TypeId} {k : IntKind} (hu : P.underlying KT = some (.int k)) : KeyOk P KT (Value.int k) where
  check := by
    intro b x w
    unfold Instr.checkKey
    simp [run_underlying hu]
  find := by
    intro x l ks w h
    unfold Instr.findKey
    simp [run_underlying hu, findNow_int x l ks 0 h]
  bits := by intro x; simp [Instr.sameBits]

theorem beq_bytes (a b : ByteArray) : (a == b) = decide (a = b) := by
  by_cases h : a = b
  · subst h
    rw [decide_eq_true rfl]
    show (a.data == a.data) = true
    exact beq_self_eq_true _
  · rw [decide_eq_false h]
    show (a.data == b.data) = false
    have : a.data ≠ b.data := fun e => h (by cases a; cases b; simpa using e)
    simpa using this
theorem findNow_str (a : ByteArray) : ∀ (l : List MapEntry) (ks : List ByteArray) (i : Nat), l.map (·.key) = ks.map Value.string →
    Instr.findNow .string (.string a) l i = some ((ks.findIdx? (fun y => decide (a = y))).map (fun j => (i + j, (l.getD j default).val)))
  | [], ks, i, h => by
    have : ks = [] := by simpa using h.symm
    subst this
    rfl
  | x :: l, [], i, h => by simp at h
  | x :: l, b :: ks, i, h => by
    simp only [List.map_cons, List.cons.injEq] at h
    unfold Instr.findNow
    rw [h.1]
    simp only [Instr.sameNow]
    rw [List.findIdx?_cons]
    by_cases hab : a = b
    · rw [beq_bytes, decide_eq_true hab]; simp [hab]
    · have : (a == b) = false := by rw [beq_bytes, decide_eq_false hab]
      rw [this, findNow_str a l ks (i + 1) h.2]
      simp only [hab, decide_false, if_false, Bool.false_eq_true, Option.map_map]
      congr 2
      funext j
      simp [Nat.add_assoc, Nat.add_comm 1 j]

theorem key_str {KT : TypeId} (hu : P.underlying KT = some .string) : KeyOk P KT Value.string where
  check := by
    intro b x w
    unfold Instr.checkKey
    simp [run_underlying hu]
  find := by
    intro x l ks w h
    unfold Instr.findKey
    simp [run_underlying hu, findNow_str x l ks 0 h]
  bits := by intro x; simp [Instr.sameBits, beq_bytes]

/-! ### keys that are structs -/
theorem find_asking {κ : Type} [DecidableEq κ] {KT : TypeId} {kv : κ → Value} (heq : ∀ x y w, (Op.equal KT (kv x) (kv y)).run P w = .ok (decide (x = y)) w) (x : κ) (w : World) : ∀ (l : List MapEntry) (ks : List κ) (i : Nat), l.map (·.key) = ks.map kv →
    (Instr.findAsking KT (kv x) l i).run P w = .ok ((ks.findIdx? (fun y => decide (x = y))).map (fun j => (i + j, (l.getD j default).val))) w
  | [], ks, i, h => by
    have : ks = [] := by simpa using h.symm
    subst this
    simp [Instr.findAsking]
  | e :: l, [], i, h => by simp at h
  | e :: l, k :: ks, i, h => by
    simp only [List.map_cons, List.cons.injEq] at h
    unfold Instr.findAsking
    rw [h.1]
    simp only [Sem.run_bind, heq, Result.andThen_ok, List.findIdx?_cons]
    by_cases hx : x = k
    · simp [hx]
    · simp only [hx, decide_false, Bool.false_eq_true, if_false]
      rw [find_asking heq x w l ks (i + 1) h.2]
      cases ks.findIdx? (fun y => decide (x = y)) with
      | none => rfl
      | some j => simp; omega
theorem key_ask {κ : Type} [DecidableEq κ] {KT : TypeId} {kv : κ → Value} {td : TypeDesc} (hu : P.underlying KT = some td) (hnow : ∀ a b, Instr.sameNow td (kv a) (kv b) = none) (hchk : ∀ b x w, (Instr.checkKey b 10000 KT (kv x)).run P w = .ok () w)
    (heq : ∀ x y w, (Op.equal KT (kv x) (kv y)).run P w = .ok (decide (x = y)) w) (hbits : ∀ x, Instr.sameBits 10000 (kv x) (kv x) = true) : KeyOk P KT kv where
  check := hchk
  find := by
    intro x l ks w h
    have hf := find_asking heq x w l ks 0 h
    simp only [Nat.zero_add] at hf
    unfold Instr.findKey
    cases l with
    | nil =>
      have : ks = [] := by simpa using h.symm
      subst this
      simp [run_underlying hu, Instr.findNow]
    | cons e l =>
      cases ks with
      | nil => simp at h
      | cons k ks =>
        have h0 : e.key = kv k := by simp at h; exact h.1
        simp only [Sem.run_bind, run_underlying hu, Result.andThen_ok, Instr.findNow, h0, hnow]
        exact hf
  bits := hbits
end E
end Go.Proofs.YtiapgmfooclpcaaDoor

/- Helpers of the walks: rows of bytes and ints, blocks by type, what is new. No condition. -/
namespace Go.Proofs.YtiapgmfooclpcaaDoor
open Go.RowKit
set_option linter.unusedVariables false
set_option linter.unusedSimpArgs false
namespace E

def iv (x : Int) : Value := .int .i64 x
theorem iv_at (xs : List Int) (i : Nat) (h : i < xs.length) : (xs.map iv)[i]? = some (.int .i64 (xs[i])) := by
  rw [List.getElem?_map, List.getElem?_eq_getElem h]; rfl
theorem iv_one (xs : List Int) : ∀ u ∈ xs.map iv, u.oneCell' = true := by
  intro u hu
  obtain ⟨x, _, rfl⟩ := List.mem_map.1 hu
  rfl
theorem u8_at (xs : List (BitVec 8)) (i : Nat) (h : i < xs.length) : (xs.map u8v)[i]? = some (.int .u8 ((xs[i]).toNat : Int)) := by
  rw [List.getElem?_map, List.getElem?_eq_getElem h]; rfl
theorem u8_one (xs : List (BitVec 8)) : ∀ u ∈ xs.map u8v, u.oneCell' = true := by
  intro u hu
  obtain ⟨x, _, rfl⟩ := List.mem_map.1 hu
  rfl
theorem Blk.at {w : World} {b i : Nat} {cs : Array Value} {T : TypeId} {v : Value} (h : Blk w b cs T) (hi : cs[i]? = some v) : w.cell? ⟨b, i, none⟩ = some v := by rw [h.cell, hi]
theorem Blk.kat {w w' : World} {b i : Nat} {cs : Array Value} {T : TypeId} {v : Value} (h : Blk w b cs T) (hk : Keep [] w w') (hi : cs[i]? = some v) : w'.cell? ⟨b, i, none⟩ = some v := (h.keep hk (by simp)).at hi
theorem Blk.ty {w : World} {b : Nat} {cs cs' : Array Value} {T T' : TypeId} (h : Blk w b cs T) (h' : Blk w b cs' T') : T = T' := by
  have := h.symm.trans h'
  simp at this
  exact this.2
/-- a block of another type is no slice's -/
theorem Sl.off {w : World} {E T : TypeId} {sz : Nat} {a : Option Addr} {m c r : Nat} {xs : List Value} {cs : Array Value} (h : Sl w E sz a m c xs) (hb : Blk w r cs T) (hT : E ≠ T) : Off [r] a := by
  rintro p rfl
  obtain ⟨_, h⟩ := h
  rcases h with ⟨h, _⟩ | ⟨g, cur, hg, hb', _⟩
  · simp at h
  · simp at hg
    subst hg
    intro hr
    simp at hr
    subst hr
    exact hT (hb'.ty hb)
/-- a slice's block is none of another type -/
theorem Sl.notin {w : World} {E T : TypeId} {sz : Nat} {a : Option Addr} {m c r : Nat} {xs : List Value} {cs : Array Value} (h : Sl w E sz a m c xs) (hb : Blk w r cs T) (hT : E ≠ T) : r ∉ blkOf a := by
  cases a with
  | none => simp [blkOf]
  | some p =>
    have := h.off hb hT p rfl
    simp [blkOf] at this ⊢
    exact fun e => this e.symm
/-- slices of two types have no block together -/
theorem Sl.off2 {w : World} {E E' : TypeId} {sz sz' : Nat} {a a' : Option Addr} {m c m' c' : Nat} {xs xs' : List Value} (h : Sl w E sz a m c xs) (h' : Sl w E' sz' a' m' c' xs') (hT : E ≠ E') : Off (blkOf a') a := by
  cases a' with
  | none => intro p _; simp [blkOf]
  | some q =>
    obtain ⟨_, h'⟩ := h'
    rcases h' with ⟨h0, _⟩ | ⟨g, cur, hg, hb', _⟩
    · simp at h0
    · simp at hg
      subst hg
      exact h.off hb' hT
/-- a slice whose block is below a bound, against one that is not -/
theorem off_lt {a : Option Addr} {S : List Nat} {k : Nat} (h : ∀ p, a = some p → p.block < k) (hS : ∀ b ∈ S, k ≤ b) : Off S a := by
  intro p hp hm
  have := h p hp
  have := hS _ hm
  omega
theorem Keep.trb {w w1 w2 : World} {a : Option Addr} (h : Keep [] w w1) (h' : Keep (blkOf a) w1 w2) (hf : ∀ p, a = some p → w.heap.size ≤ p.block) : Keep [] w w2 :=
  h.trans h' (by
    intro b hb hl
    cases a with
    | none => simp [blkOf] at hb
    | some p =>
      have := hf p rfl
      simp [blkOf] at hb
      omega)
theorem fresh_app {k : Nat} {w w' : World} {a a2 : Option Addr} (hf : ∀ q, a = some q → k ≤ q.block) (hk : k ≤ w.heap.size) (hv : (a2 = a ∧ w'.heap.size = w.heap.size) ∨ (∃ g, a2 = some ⟨g, 0, none⟩ ∧ w.heap.size = g ∧ w'.heap.size = g + 1)) :
    ∀ q, a2 = some q → k ≤ q.block := by
  intro q hq
  rcases hv with ⟨rfl, _⟩ | ⟨g, rfl, h, _⟩
  · exact hf q hq
  · simp at hq; subst hq; simp only; omega
/-- a new slice -/
def New (w w' : World) (E : TypeId) (v : Value) (xs : List Value) : Prop := ∃ a2 c2, v = .slice a2 xs.length c2 ∧ Sl w' E 1 a2 xs.length c2 xs ∧ ∀ q, a2 = some q → w.heap.size ≤ q.block
theorem New.nil {w w' : World} {E : TypeId} : New w w' E (.slice none 0 0) [] := ⟨none, 0, rfl, Sl.nil _ _ _, by simp⟩
theorem ofN (k : Nat) (h : k < 18446744073709551616) : (BitVec.ofInt 64 (k : Int)).toNat = k := by
  rw [BitVec.toNat_ofInt]; omega
theorem sl_max {w : World} {E : TypeId} {sz : Nat} {a : Option Addr} {m c : Nat} {xs : List Value} (h : Sl w E sz a m c xs) : m ≤ 9223372036854775807 := by
  obtain ⟨_, h⟩ := h
  rcases h with ⟨_, rfl, _⟩ | ⟨g, cur, _, _, h1, h2, _⟩
  · omega
  · simp only [maxLen] at h2; omega
/-- no goods: Keep of more -/
theorem Keep.also {S : List Nat} {w w' : World} (h : Keep [] w w') : Keep S w w' := h.mono (by simp)
/-- one cell of a slice's own block is written -/
theorem Sl.set {w w' : World} {E : TypeId} {g m c k : Nat} {xs : List Value} {cur : Array Value} {v : Value} (h : Sl w E 1 (some ⟨g, 0, none⟩) m c xs) (hk : k < m) (hc : Blk w g cur E) (hb : Blk w' g (cur.setIfInBounds (0 + k) v) E) :
    Sl w' E 1 (some ⟨g, 0, none⟩) m c (xs.set k v) := by
  obtain ⟨hl, h⟩ := h
  rcases h with ⟨h, _⟩ | ⟨g', cur', hg, hb', h1, h2, h3, h4⟩
  · simp at h
  · simp at hg
    subst hg
    obtain rfl := hb'.inj hc
    refine ⟨by simpa using hl, .inr ⟨g, _, rfl, hb, h1, h2, by simpa using h3, ?_⟩⟩
    rw [Nat.zero_add, Nat.mul_one] at *
    rw [Array.toList_setIfInBounds, ← h4, List.take_set]
theorem Sl.blk {w : World} {E : TypeId} {sz m c : Nat} {a : Option Addr} {xs : List Value} (h : Sl w E sz a m c xs) (hm : 0 < m) : ∃ g cur, a = some ⟨g, 0, none⟩ ∧ Blk w g cur E ∧ m * sz ≤ cur.size := by
  obtain ⟨_, h⟩ := h
  rcases h with ⟨_, h, _⟩ | ⟨g, cur, hg, hb, h1, h2, h3, h4⟩
  · omega
  · exact ⟨g, cur, hg, hb, by rw [h3]; exact Nat.mul_le_mul_right _ h1⟩
/-- what was turned lies from k on, and is of these types -/
def KeepT (Ts : List TypeId) (k : Nat) (w w' : World) : Prop := ∃ S, Keep S w w' ∧ ∀ b ∈ S, k ≤ b ∧ ∃ cs T, T ∈ Ts ∧ Blk w b cs T
theorem Keep.t {Ts : List TypeId} {k : Nat} {w w' : World} (h : Keep [] w w') : KeepT Ts k w w' := ⟨[], h, by simp⟩
theorem Keep.t1 {Ts : List TypeId} {k r : Nat} {w w' : World} {cs : Array Value} {T : TypeId} (h : Keep [r] w w') (hk : k ≤ r) (hb : Blk w r cs T) (hT : T ∈ Ts) : KeepT Ts k w w' :=
  ⟨[r], h, by intro b hm; simp at hm; subst hm; exact ⟨hk, cs, T, hT, hb⟩⟩
theorem Keep.ts {Ts : List TypeId} {k : Nat} {w w' : World} {E : TypeId} {sz m c : Nat} {a : Option Addr} {xs : List Value} (h : Keep (blkOf a) w w') (hs : Sl w E sz a m c xs) (hk : ∀ q, a = some q → k ≤ q.block) (hT : E ∈ Ts) : KeepT Ts k w w' := by
  refine ⟨blkOf a, h, fun b hm => ?_⟩
  cases a with
  | none => simp [blkOf] at hm
  | some p =>
    simp [blkOf] at hm
    subst hm
    obtain ⟨_, hs⟩ := hs
    rcases hs with ⟨h0, _⟩ | ⟨g, cur, hg, hb, _⟩
    · simp at h0
    · simp at hg
      subst hg
      exact ⟨hk _ rfl, cur, E, hT, hb⟩
theorem KeepT.tr {Ts : List TypeId} {k : Nat} {w w1 w2 : World} (h : KeepT Ts k w w1) (h' : KeepT Ts k w1 w2) : KeepT Ts k w w2 := by
  obtain ⟨S, hk, hS⟩ := h
  obtain ⟨S', hk', hS'⟩ := h'
  refine ⟨S ++ S'.filter (fun b => decide (b < w.heap.size)), (hk.mono (by intro b hb; simp [hb])).trans hk' (by intro b hb hl; simp [hb, hl]), fun b hb => ?_⟩
  rcases List.mem_append.1 hb with hb | hb
  · exact hS b hb
  · simp at hb
    by_cases hm : b ∈ S
    · exact hS b hm
    · obtain ⟨h1, cs, T, hT, hB⟩ := hS' b hb.1
      exact ⟨h1, cs, T, hT, (hk.block b hb.2 hm).symm.trans hB⟩
theorem KeepT.mono {Ts Ts' : List TypeId} {k k' : Nat} {w w' : World} (h : KeepT Ts k w w') (ht : ∀ T ∈ Ts, T ∈ Ts') (hk : k' ≤ k) : KeepT Ts' k' w w' := by
  obtain ⟨S, h1, h2⟩ := h
  refine ⟨S, h1, fun b hb => ?_⟩
  obtain ⟨h3, cs, T, hT, hB⟩ := h2 b hb
  exact ⟨by omega, cs, T, ht T hT, hB⟩
theorem KeepT.below {Ts : List TypeId} {k : Nat} {w0 w w' : World} (h : KeepT Ts k w w') (h0 : Keep [] w0 w) (hk : w0.heap.size ≤ k) : Keep [] w0 w' := by
  obtain ⟨S, h1, h2⟩ := h
  exact h0.trans h1 (by intro b hb hl; have := (h2 b hb).1; omega)
theorem KeepT.size {Ts : List TypeId} {k : Nat} {w w' : World} (h : KeepT Ts k w w') : w.heap.size ≤ w'.heap.size := by
  obtain ⟨S, h1, _⟩ := h
  exact h1.size
theorem Blk.kt {Ts : List TypeId} {k : Nat} {w w' : World} {b : Nat} {cs : Array Value} {T : TypeId} (h : Blk w b cs T) (hk : KeepT Ts k w w') (hT : T ∉ Ts) : Blk w' b cs T := by
  obtain ⟨S, h1, h2⟩ := hk
  refine h.keep h1 (fun hm => ?_)
  obtain ⟨_, cs', T', hT', hB⟩ := h2 b hm
  exact hT (h.ty hB ▸ hT')
theorem Sl.kt {Ts : List TypeId} {k : Nat} {w w' : World} {E : TypeId} {sz m c : Nat} {a : Option Addr} {xs : List Value} (h : Sl w E sz a m c xs) (hk : KeepT Ts k w w') (hT : E ∉ Ts) : Sl w' E sz a m c xs := by
  refine ⟨h.1, ?_⟩
  rcases h.2 with h2 | ⟨g, cur, rfl, hb, h1⟩
  · exact .inl h2
  · exact .inr ⟨g, cur, rfl, hb.kt hk hT, h1⟩
/-- what lies below k stays -/
theorem Rd.kt {Ts : List TypeId} {k : Nat} {w w' : World} {a : Option Addr} {xs : List Value} (h : Rd w a xs) (hk : KeepT Ts k w w') (ha : ∀ p, a = some p → p.block < k) : Rd w' a xs := by
  obtain ⟨S, h1, h2⟩ := hk
  refine h.keep h1 (off_lt ha (fun b hb => (h2 b hb).1))
theorem Rd.keepN {S : List Nat} {w w' : World} {a : Option Addr} {xs : List Value} (h : Rd w a xs) (hk : Keep S w w') (hn : xs ≠ [] → Off S a) : Rd w' a xs := by
  cases xs with
  | nil => exact Rd.nil _ _
  | cons x xs => exact h.keep hk (hn (by simp))
theorem Rd.ltn {w : World} {a : Option Addr} {xs : List Value} (h : Rd w a xs) (hn : xs ≠ []) : ∀ p, a = some p → p.block < w.heap.size := by
  obtain ⟨p, rfl, hp⟩ := h.lt (List.length_pos_iff.2 hn)
  intro q hq
  cases hq
  exact hp
theorem Rd.ktN {Ts : List TypeId} {k : Nat} {w w' : World} {a : Option Addr} {xs : List Value} (h : Rd w a xs) (hk : KeepT Ts k w w') (ha : xs ≠ [] → ∀ p, a = some p → p.block < k) : Rd w' a xs := by
  cases xs with
  | nil => exact Rd.nil _ _
  | cons x xs => exact h.kt hk (ha (by simp))
theorem Mp.kt {κ : Type} {kv : κ → Value} {l : List (κ × Value)} {Ts : List TypeId} {k : Nat} {w w' : World} {r : Nat} (h : Mp w r kv l) (hk : KeepT Ts k w w') : Mp w' r kv l := by
  obtain ⟨S, h1, h2⟩ := hk
  refine h.keep h1 (fun hm => ?_)
  obtain ⟨_, cs', T', hT', hB⟩ := h2 r hm
  obtain ⟨es, clock, h, _⟩ := h
  unfold Blk at hB
  rw [h] at hB
  simp at hB
/-- min of three integers -/
theorem o_min3 {P : Program} {n : Nat} {e : Env} {w : World} {l0 l : List Oper} {K : Env → World → Prop} {d : Nat} {T : TypeId} {pos : String} {af : Array Edge} {x y z : Operand} {k : IntKind} {a b c : Int} {ts : Array TypeId} (hx : ev n e x = .int k a) (hy : ev n e y = .int k b) (hz : ev n e z = .int k c) (h : ow P n l0 K l (upd e d (.int k (if c < (if b < a then b else a) then c else (if b < a then b else a)))) w) :
    ow P n l0 K (⟨some d, .call ⟨.builtin .min, #[x, y, z], ts⟩, T, pos, af, none⟩ :: l) e w := by
  refine o_run (v := .int k (if c < (if b < a then b else a) then c else (if b < a then b else a))) (w' := w) ?_ h
  simp [execOp, resolve, invoke, builtin, hx, hy, hz, Builtin.min_, Builtin.min2]
/-! ### whole structs and arrays -/
def isAggB (P : Program) (t : TypeId) : Bool :=
  match P.underlying t with
  | some (.struct _) | some (.array _ _) => true
  | _ => false
theorem run_isAggT {P : Program} {w : World} {t : TypeId} (h : isAggB P t = true) : (isAgg t).run P w = .ok true w := by
  unfold isAggB at h
  cases hu : P.underlying t with
  | none => rw [hu] at h; cases h
  | some dd => rw [hu] at h; cases dd <;> simp at h <;> simp [isAgg, run_underlying hu]
theorem run_loadCellsFrom {P : Program} {w : World} {b o : Nat} : ∀ (xs : List Value) (i : Nat) (acc : Array Value), (∀ j v, xs[j]? = some v → w.cell? ⟨b, o + (i + j), none⟩ = some v) →
    (loadCellsFrom ⟨b, o, none⟩ i xs.length acc).run P w = .ok (acc ++ xs.toArray) w
  | [], i, acc, _ => by simp [loadCellsFrom]
  | x :: xs, i, acc, h => by
    have h0 : w.cell? ((⟨b, o, none⟩ : Addr).add i) = some x := by
      have := h 0 x rfl
      rw [Addr.add_lit]
      exact this
    have ih := run_loadCellsFrom (P := P) (w := w) (b := b) (o := o) xs (i + 1) (acc.push x) (fun j v hv => by
      have := h (j + 1) v hv
      rwa [show i + (j + 1) = i + 1 + j by omega] at this)
    simp only [List.length_cons, loadCellsFrom]
    simp [h0, ih]
/-- a struct or an array is read -/
theorem o_lda {P : Program} {n : Nat} {e : Env} {w : World} {l0 l : List Oper} {K : Env → World → Prop} {d : Nat} {T : TypeId} {pos : String} {af : Array Edge} {x : Operand} {t : TypeId} {b o : Nat} {xs : List Value} (hx : ev n e x = .pointer (some ⟨b, o, none⟩)) (ht : isAggB P t = true) (hs : szB P t xs.length = true)
    (hc : ∀ j v, xs[j]? = some v → w.cell? ⟨b, o + j, none⟩ = some v) (h : ow P n l0 K l (upd e d (.agg xs.toArray)) w) : ow P n l0 K (⟨some d, .load t x, T, pos, af, none⟩ :: l) e w := by
  refine o_run (v := .agg xs.toArray) (w' := w) ?_ h
  have hr := run_loadCellsFrom (P := P) (w := w) (b := b) (o := o) xs 0 #[] (fun j v hv => by rw [Nat.zero_add]; exact hc j v hv)
  simp [execOp, hx, Instr.loadAt, Instr.sureAddr, loadVar, run_isAggT ht, run_sizeOf hs, loadCells, hr]
theorem run_storeCells {P : Program} {b o : Nat} {S : TypeId} : ∀ (xs : List Value) (i : Nat) (w : World) (cs : Array Value), Blk w b cs S → o + i + xs.length ≤ cs.size → (∀ u ∈ xs, u.oneCell' = true) →
    ∃ w', (storeCells ⟨b, o, none⟩ xs i).run P w = .ok () w' ∧ Blk w' b (cs.toList.take (o + i) ++ xs ++ cs.toList.drop (o + i + xs.length)).toArray S ∧ Keep [b] w w' ∧ w'.heap.size = w.heap.size
  | [], i, w, cs, hb, hl, h1 => by
    refine ⟨w, by simp [storeCells], ?_, Keep.refl _ _, rfl⟩
    simpa using hb
  | x :: xs, i, w, cs, hb, hl, h1 => by
    simp at hl
    have hi : o + i < cs.size := by omega
    have hc : w.cell? ⟨b, o + i, none⟩ = some cs[o + i] := by rw [hb.cell]; simp [hi]
    have hf := frozen_of_row w b (o + i) cs S hb
    have hx := h1 x (by simp)
    have hst := run_store P w ⟨b, o + i, none⟩ x .plain hx
    have hB : Blk (w.setCell ⟨b, o + i, none⟩ x) b (cs.setIfInBounds (o + i) x) S := heap_setCell_same w b (o + i) cs S x hb
    obtain ⟨w', hr, hB', hK, hZ⟩ := run_storeCells (P := P) (b := b) (o := o) (S := S) xs (i + 1) _ _ hB (by simp; omega) (fun u hu => h1 u (by simp [hu]))
    have hk1 : Keep [b] w (w.setCell ⟨b, o + i, none⟩ x) := ⟨rfl, rfl, rfl, by simp, fun k _ hk => heap_setCell_other w _ k x (by simpa using hk)⟩
    refine ⟨w', ?_, ?_, hk1.trans hK (fun _ h _ => h), by rw [hZ]; simp⟩
    · have hadd : Addr.add ⟨b, o, none⟩ i = ⟨b, o + i, none⟩ := Addr.add_lit b o i
      simp [storeCells, hadd, hst, hc, hf, hr]
    · have e : (cs.setIfInBounds (o + i) x).toList.take (o + (i + 1)) ++ xs ++ (cs.setIfInBounds (o + i) x).toList.drop (o + (i + 1) + xs.length) = cs.toList.take (o + i) ++ (x :: xs) ++ cs.toList.drop (o + i + (x :: xs).length) := by
        rw [Array.toList_setIfInBounds, List.drop_set_of_lt (by omega), List.length_cons, show o + (i + 1) + xs.length = o + i + (xs.length + 1) by omega]
        have e2 : (cs.toList.set (o + i) x).take (o + (i + 1)) = cs.toList.take (o + i) ++ [x] := by
          have ht : (cs.toList.take (o + i)).length = o + i := by simp; omega
          rw [show o + (i + 1) = (o + i) + 1 by omega, List.take_set, List.take_succ_eq_append_getElem (by simpa using hi), List.set_append, if_neg (by omega), ht, Nat.sub_self]
          rfl
        rw [e2]
        simp
      rw [← e]
      exact hB'
/-- a struct or an array is written -/
theorem o_sta {P : Program} {n : Nat} {e : Env} {w : World} {l0 l : List Oper} {K : Env → World → Prop} {T : TypeId} {pos : String} {af : Array Edge} {x y : Operand} {t S : TypeId} {b o : Nat} {xs : List Value} {cs : Array Value} (hx : ev n e x = .pointer (some ⟨b, o, none⟩)) (hy : ev n e y = .agg xs.toArray) (hs : szB P t xs.length = true)
    (h1 : ∀ u ∈ xs, u.oneCell' = true) (hb : Blk w b cs S) (hl : o + xs.length ≤ cs.size)
    (h : ∀ w', Blk w' b (cs.toList.take o ++ xs ++ cs.toList.drop (o + xs.length)).toArray S → Keep [b] w w' → w'.heap.size = w.heap.size → ow P n l0 K l e w') :
    ow P n l0 K (⟨none, .store t x y, T, pos, af, none⟩ :: l) e w := by
  obtain ⟨w', hr, hB, hK, hZ⟩ := run_storeCells (P := P) (b := b) (o := o) (S := S) xs 0 w cs hb (by omega) h1
  refine o_runs (w' := w') ?_ (h w' hB hK hZ)
  simp [execOp, hx, hy, Instr.storeAt, Instr.sureAddr, storeVar, run_sizeOf hs, Value.cells, hr]
end E
end Go.Proofs.YtiapgmfooclpcaaDoor

/- Opening a law's arguments: slices of structs. No condition. -/
namespace Go.Proofs.YtiapgmfooclpcaaDoor
open Go.RowKit
set_option linter.unusedVariables false
set_option linter.unusedSimpArgs false
namespace E
section
variable {H : Type} {enc : TypeId × Value → H} {P : Program} {W : World} {base : Nat}

theorem mapM_cells {W : World} {x : Addr} : ∀ (k s : Nat) (cs : List Value), (List.range' s k).mapM (fun i => W.cell? (x.add i)) = some cs → cs.length = k ∧ ∀ j v, cs[j]? = some v → W.cell? (x.add (s + j)) = some v
  | 0, s, cs, h => by
    simp at h
    subst h
    exact ⟨rfl, fun j v hv => by simp at hv⟩
  | k + 1, s, cs, h => by
    rw [List.range'_succ, List.mapM_cons] at h
    cases h1 : W.cell? (x.add s) with
    | none => rw [h1] at h; simp at h
    | some v0 =>
      rw [h1] at h
      cases h2 : (List.range' (s + 1) k).mapM (fun i => W.cell? (x.add i)) with
      | none => rw [h2] at h; simp at h
      | some cs' =>
        rw [h2] at h
        simp at h
        subst h
        obtain ⟨h3, h4⟩ := mapM_cells k (s + 1) cs' h2
        refine ⟨by simp [h3], fun j v hv => ?_⟩
        cases j with
        | zero => simp at hv; subst hv; exact h1
        | succ j =>
          have := h4 j v (by simpa using hv)
          rwa [show s + 1 + j = s + (j + 1) by omega] at this
theorem flatten_at {sz : Nat} (hsz : 0 < sz) : ∀ (css : List (List Value)), (∀ cs ∈ css, cs.length = sz) → ∀ i v, css.flatten[i]? = some v → ∃ cs, css[i / sz]? = some cs ∧ cs[i % sz]? = some v
  | [], _, i, v, h => by simp at h
  | cs :: css, hl, i, v, h => by
    have h0 := hl cs (by simp)
    by_cases hi : i < sz
    · refine ⟨cs, by rw [Nat.div_eq_of_lt hi]; rfl, ?_⟩
      rw [Nat.mod_eq_of_lt hi]
      rwa [List.flatten_cons, List.getElem?_append_left (by omega)] at h
    · rw [List.flatten_cons, List.getElem?_append_right (by omega), h0] at h
      obtain ⟨cs', h1, h2⟩ := flatten_at hsz css (fun c hc => hl c (by simp [hc])) _ v h
      refine ⟨cs', ?_, ?_⟩
      · have e : i / sz = (i - sz) / sz + 1 := by rw [Nat.div_eq_sub_div hsz (by omega)]
        rw [e]; simpa using h1
      · rw [Nat.mod_eq_sub_mod (by omega)]; exact h2
theorem flatten_get {sz : Nat} : ∀ (css : List (List Value)), (∀ cs ∈ css, cs.length = sz) → ∀ i j cs v, css[i]? = some cs → cs[j]? = some v → css.flatten[i * sz + j]? = some v
  | [], _, i, j, cs, v, h, _ => by simp at h
  | c :: css, hl, i, j, cs, v, h, hv => by
    have h0 := hl c (by simp)
    have hj := (List.getElem?_eq_some_iff.1 hv).1
    cases i with
    | zero =>
      simp at h
      subst h
      rw [Nat.zero_mul, Nat.zero_add, List.flatten_cons, List.getElem?_append_left hj]
      exact hv
    | succ i =>
      rw [List.flatten_cons, List.getElem?_append_right (by rw [h0, Nat.succ_mul]; omega), h0, show (i + 1) * sz + j - sz = i * sz + j by rw [Nat.succ_mul]; omega]
      exact flatten_get css (fun c hc => hl c (by simp [hc])) i j cs v (by simpa using h) hv

theorem cells_spec {x : Addr} {k : Nat} {cs : List Value} (h : W.cells? 0 x k = some cs) : cs.length = k ∧ ∀ j v, cs[j]? = some v → W.cell? (x.add j) = some v := by
  unfold World.cells? at h
  rw [if_pos (Nat.zero_le _), List.range_eq_range'] at h
  obtain ⟨h9, h10⟩ := mapM_cells _ 0 _ h
  exact ⟨h9, fun j v hv => by have := h10 j v hv; rwa [Nat.zero_add] at this⟩
/-- a slice whose elements are of sz cells -/
theorem op_elems {t e : TypeId} {sz : Nat} {v : Value} {d : DataW H} {p : List MemPlace} (ht : P.underlying t = some (.slice e)) (hc : P.cellsOf e = sz) (hsz : 0 < sz) (hok : Value.okWide P W .any base t v) (h : DataW.Trod enc P W 0 (fun _ => true) true t v d p) :
    ∃ (a : Option Addr) (len cap : Nat) (css : List (List Value)), v = .slice a len cap ∧ css.length = len ∧ len ≤ cap ∧ cap ≤ 9223372036854775807 ∧ (∀ cs ∈ css, cs.length = sz) ∧ Rd W a css.flatten ∧ ∀ cs ∈ css, ∃ m y, DataW.trod enc P W 0 (fun _ => true) true m e cs = some y := by
  subst hc
  obtain ⟨a, len, cap, rfl⟩ := WideShapes.okWide_slice ht hok
  obtain ⟨fuel, hf⟩ := h
  rcases DataW.trod_slice ht hf with ⟨h1, h2⟩ | ⟨x, len', cap', elems, rest, m, h1, h2, h3, h4, h5, h6, h7, h8, _⟩
  · simp [Value.cells] at h1
    obtain ⟨rfl, rfl, rfl⟩ := h1
    exact ⟨none, 0, 0, [], rfl, rfl, by omega, by omega, by simp, Rd.nil _ _, by simp⟩
  · simp [Value.cells] at h2
    obtain ⟨rfl, rfl, rfl⟩ := h2
    have each : ∀ i, i < len → ∃ cs y, W.cells? 0 (x.add (i * P.cellsOf e)) (P.cellsOf e) = some cs ∧ DataW.trod enc P W 0 (fun _ => true) true m e cs = some y := by
      intro i hi
      have := h8 i hi
      rw [List.getElem?_eq_getElem (by omega)] at this
      obtain ⟨cs, hcs, hy⟩ := Option.bind_eq_some_iff.1 this
      exact ⟨cs, _, hcs, hy⟩
    have hcell : ∀ i (hi : i < len), (Classical.choose (each i hi)).length = P.cellsOf e ∧ ∀ j v, (Classical.choose (each i hi))[j]? = some v → W.cell? ((x.add (i * P.cellsOf e)).add j) = some v := by
      intro i hi
      obtain ⟨y, hy, _⟩ := Classical.choose_spec (each i hi)
      exact cells_spec hy
    let css : List (List Value) := List.ofFn (n := len) fun i => Classical.choose (each i.val i.isLt)
    have hcss : ∀ i (hi : i < len), css[i]? = some (Classical.choose (each i hi)) := by
      intro i hi
      simp [css, hi]
    have hl : ∀ cs ∈ css, cs.length = P.cellsOf e := by
      intro cs hcs
      obtain ⟨i, rfl⟩ := List.mem_ofFn.1 hcs
      exact (hcell i.val i.isLt).1
    refine ⟨some x, len, cap, css, rfl, by simp [css], h5, by simpa [maxLen] using h6, hl, ?_, ?_⟩
    · intro i v hv
      obtain ⟨cs, h9, h10⟩ := flatten_at hsz css hl i v hv
      have hi : i / P.cellsOf e < len := by
        have := (List.getElem?_eq_some_iff.1 h9).1
        simpa [css] using this
      rw [hcss _ hi] at h9
      obtain rfl := Option.some.inj h9
      have := (hcell _ hi).2 _ v h10
      have hsp : x.spot = none := by
        have h0 := hcell 0 (Nat.lt_of_le_of_lt (Nat.zero_le _) hi)
        have h1 : ∃ v, W.cell? ((x.add (0 * P.cellsOf e)).add 0) = some v := ⟨_, h0.2 0 _ (List.getElem?_eq_getElem (by rw [h0.1]; exact hsz))⟩
        obtain ⟨v1, h1⟩ := h1
        rw [Nat.zero_mul, show (x.add 0).add 0 = x from by simp [Addr.add]] at h1
        exact spot_none h1
      obtain ⟨b, o, sp⟩ := x
      simp at hsp
      subst hsp
      refine ⟨b, o, rfl, ?_⟩
      rw [Addr.add_lit, Addr.add_lit, Nat.add_assoc, Nat.mul_comm, Nat.div_add_mod] at this
      exact this
    · intro cs hcs
      obtain ⟨i, rfl⟩ := List.mem_ofFn.1 hcs
      obtain ⟨y, _, hy⟩ := Classical.choose_spec (each i.val i.isLt)
      exact ⟨m, y, hy⟩
theorem take1 {cs : List Value} {o : Nat} {v : Value} (h : (cs.drop o).take 1 = [v]) : cs[o]? = some v := by
  have := congrArg (fun x => x[0]?) h
  simpa [List.getElem?_take, List.getElem?_drop] using this
theorem fld_trod {e : TypeId} {fs : Array Field} {f : Field} {i : Nat} {cs : List Value} (h : ∃ m y, DataW.trod enc P W 0 (fun _ => true) true m e cs = some y) (hu : P.underlying e = some (.struct fs)) (hf : fs[i]? = some f) (hc : P.cellsOf f.type = 1) :
    ∃ m y, DataW.trod enc P W 0 (fun _ => true) true m f.type ((cs.drop f.offset).take 1) = some y := by
  obtain ⟨m, y, hy⟩ := h
  obtain ⟨xs, n, _, _, _, hl, hfl⟩ := DataW.trod_struct hu hy
  have := hfl i f hf
  rw [hc, List.getElem?_eq_getElem (by rw [hl]; exact (Array.getElem?_eq_some_iff.1 hf).1)] at this
  exact ⟨n, _, this⟩
theorem fld_int {e : TypeId} {fs : Array Field} {f : Field} {i : Nat} {k : IntKind} {cs : List Value} (h : ∃ m y, DataW.trod enc P W 0 (fun _ => true) true m e cs = some y) (hu : P.underlying e = some (.struct fs)) (hf : fs[i]? = some f) (hc : P.cellsOf f.type = 1) (ht : P.underlying f.type = some (.int k)) :
    ∃ a, cs[f.offset]? = some (.int k a) ∧ k.min ≤ a ∧ a ≤ k.max := by
  obtain ⟨m, y, hy⟩ := fld_trod h hu hf hc
  obtain ⟨a, h1, _, hw⟩ := DataW.trod_int ht hy
  simp only [Lit.wf, Bool.and_eq_true, decide_eq_true_eq] at hw
  exact ⟨a, take1 h1, hw⟩
theorem fld_bool {e : TypeId} {fs : Array Field} {f : Field} {i : Nat} {cs : List Value} (h : ∃ m y, DataW.trod enc P W 0 (fun _ => true) true m e cs = some y) (hu : P.underlying e = some (.struct fs)) (hf : fs[i]? = some f) (hc : P.cellsOf f.type = 1) (ht : P.underlying f.type = some .bool) :
    ∃ a, cs[f.offset]? = some (.bool a) := by
  obtain ⟨m, y, hy⟩ := fld_trod h hu hf hc
  obtain ⟨a, h1, _⟩ := DataW.trod_bool ht hy
  exact ⟨a, take1 h1⟩
theorem fld_str {e : TypeId} {fs : Array Field} {f : Field} {i : Nat} {cs : List Value} (h : ∃ m y, DataW.trod enc P W 0 (fun _ => true) true m e cs = some y) (hu : P.underlying e = some (.struct fs)) (hf : fs[i]? = some f) (hc : P.cellsOf f.type = 1) (ht : P.underlying f.type = some .string) :
    ∃ a : ByteArray, cs[f.offset]? = some (.string a) ∧ a.size ≤ maxLen := by
  obtain ⟨m, y, hy⟩ := fld_trod h hu hf hc
  obtain ⟨a, h1, _, h2⟩ := DataW.trod_string ht hy
  exact ⟨a, take1 h1, h2⟩
theorem trod_row {t e : TypeId} {k : IntKind} {cs : List Value} (h : ∃ m y, DataW.trod enc P W 0 (fun _ => true) true m t cs = some y) (ht : P.underlying t = some (.slice e)) (he : P.underlying e = some (.int k)) (hc : P.cellsOf e = 1) :
    ∃ a len cap zs, cs = [.slice a len cap] ∧ Row k W a len cap zs := by
  obtain ⟨m, y, hy⟩ := h
  rcases ChangeShapes.open_ints ht he hc hy with ⟨hcs, _⟩ | ⟨x, l, c, zs, hcs, _, hl, hm, hz, hx, hcell, hwz⟩
  · exact ⟨none, 0, 0, [], hcs, .inl ⟨rfl, rfl, rfl, rfl⟩⟩
  · exact ⟨some x, l, c, zs, hcs, .inr ⟨x, rfl, hl, hm, by simpa using hz, hcell, hwz⟩⟩
theorem fld_row {e t' : TypeId} {fs : Array Field} {f : Field} {i : Nat} {k : IntKind} {cs : List Value} (h : ∃ m y, DataW.trod enc P W 0 (fun _ => true) true m e cs = some y) (hu : P.underlying e = some (.struct fs)) (hf : fs[i]? = some f) (hc : P.cellsOf f.type = 1) (ht : P.underlying f.type = some (.slice t')) (he : P.underlying t' = some (.int k)) (hct : P.cellsOf t' = 1) :
    ∃ a len cap zs, cs[f.offset]? = some (.slice a len cap) ∧ Row k W a len cap zs := by
  obtain ⟨a, len, cap, zs, h1, h2⟩ := trod_row (fld_trod h hu hf hc) ht he hct
  exact ⟨a, len, cap, zs, take1 h1, h2⟩
end
end E
end Go.Proofs.YtiapgmfooclpcaaDoor

/- Regions that draw their order, some of whose operations turn memory: these stand in one order, and each of the others is quiet at every stage at which it can be met. No condition. -/
namespace Go.Proofs.YtiapgmfooclpcaaDoor
open Go.RowKit
set_option linter.unusedVariables false
set_option linter.unusedSimpArgs false
namespace E
variable {P : Program} {n : Nat} {R : Exit → Env → World → Prop} {k : List KI} {e : Env} {w : World}

/-- how many of the first of a row are done -/
def stg (D : Nat → Bool) : List Nat → Nat
  | [] => 0
  | q :: Q => bif D q then stg D Q + 1 else 0
theorem stg_mono {D D' : Nat → Bool} : ∀ (Q : List Nat), (∀ q ∈ Q, D q = true → D' q = true) → stg D Q ≤ stg D' Q
  | [], _ => Nat.le_refl _
  | q :: Q, h => by
    unfold stg
    cases hq : D q with
    | false => simp
    | true =>
      rw [h q (by simp) hq]
      simp only [cond_true]
      have := stg_mono Q (fun x hx => h x (by simp [hx]))
      omega
theorem stg_congr {D D' : Nat → Bool} (Q : List Nat) (h : ∀ q ∈ Q, D q = D' q) : stg D Q = stg D' Q :=
  Nat.le_antisymm (stg_mono Q fun q hq hd => by rw [← h q hq]; exact hd) (stg_mono Q fun q hq hd => by rw [h q hq]; exact hd)
theorem stg_split {D : Nat → Bool} : ∀ (A B : List Nat) (q : Nat), (∀ a ∈ A, D a = true) → stg D (A ++ q :: B) = A.length + stg D (q :: B)
  | [], B, q, _ => by simp
  | a :: A, B, q, h => by
    rw [List.cons_append, stg, h a (by simp), stg_split A B q (fun x hx => h x (by simp [hx]))]
    simp
    omega

/-- the bits that an operation's number has -/
def bitM (M : List Nat) (i j : Nat) : Bool := Nat.testBit (M.getD i 0) j
/-- each of the row waits for the one ahead of it -/
def ordM (M : List Nat) : List Nat → Bool
  | a :: b :: Q => bitM M b a && ordM M (b :: Q)
  | _ => true
theorem done_of {l : List Oper} {D : Nat → Bool} (hD : Shut l D) {i j : Nat} {o : Oper} (hl : l[i]? = some o) (hd : ∀ d ∈ deps o, D d = true) (hb : bitM (cloM l []) i j = true) : D j = true :=
  cloM_spec l D hD l [] rfl (fun i o hi => by simp at hi) i o hl hd j hb
theorem done_at {l : List Oper} {D : Nat → Bool} (hD : Shut l D) {i j : Nat} {o : Oper} (hl : l[i]? = some o) (hi : D i = true) (hb : bitM (cloM l []) i j = true) : D j = true :=
  done_of hD hl (hD i o hl hi) hb

def loM (M : List Nat) (Q : List Nat) (i : Nat) : Nat := stg (fun q => bitM M i q) Q
def hiM (M : List Nat) (Q : List Nat) (i : Nat) : Nat := stg (fun q => !(bitM M q i)) Q

/-- the walk in the order of the text; Q: the operations that turn memory; C s: the worlds behind s of them -/
def qg (P : Program) (n : Nat) (l0 : List Oper) (C : Nat → World → Prop) (Q0 : List Nat) (K : Nat → Env → Prop) : List Nat → Nat → Nat → List Oper → Env → Prop
  | Q, s, i, [], e => K s e
  | [], s, i, o :: l, e => ∃ v, (∀ s' w, loM (cloM l0 []) Q0 i ≤ s' → s' ≤ hiM (cloM l0 []) Q0 i → C s' w → ow P n l0 (fun e' w' => e' = updo e o.dst v ∧ C s' w') [o] e w) ∧ qg P n l0 C Q0 K [] s (i + 1) l (updo e o.dst v)
  | q :: Q, s, i, o :: l, e => bif Nat.beq i q then ∃ v, (∀ w, C s w → ow P n l0 (fun e' w' => e' = updo e o.dst v ∧ C (s + 1) w') [o] e w) ∧ qg P n l0 C Q0 K Q (s + 1) (i + 1) l (updo e o.dst v)
      else ∃ v, (∀ s' w, loM (cloM l0 []) Q0 i ≤ s' → s' ≤ hiM (cloM l0 []) Q0 i → C s' w → ow P n l0 (fun e' w' => e' = updo e o.dst v ∧ C s' w') [o] e w) ∧ qg P n l0 C Q0 K (q :: Q) s (i + 1) l (updo e o.dst v)

section steps
variable {l0 l : List Oper} {C : Nat → World → Prop} {Q0 Q : List Nat} {K : Nat → Env → Prop} {s i : Nat} {o : Oper} {v : Value}
theorem s_nil (h : K s e) : qg P n l0 C Q0 K Q s i [] e := by cases Q <;> exact h
theorem s_loud {q : Nat} (hq : Nat.beq i q = true) (h1 : ∀ w, C s w → ow P n l0 (fun e' w' => e' = updo e o.dst v ∧ C (s + 1) w') [o] e w) (h2 : qg P n l0 C Q0 K Q (s + 1) (i + 1) l (updo e o.dst v)) : qg P n l0 C Q0 K (q :: Q) s i (o :: l) e := by
  unfold qg; rw [hq]; exact ⟨v, h1, h2⟩
def notQ (i : Nat) : List Nat → Bool
  | [] => true
  | q :: _ => !(Nat.beq i q)
theorem s_step (lo hi : Nat) (hq : notQ i Q = true) (hlo : loM (cloM l0 []) Q0 i = lo) (hhi : hiM (cloM l0 []) Q0 i = hi) (h1 : ∀ s' w, lo ≤ s' → s' ≤ hi → C s' w → ow P n l0 (fun e' w' => e' = updo e o.dst v ∧ C s' w') [o] e w) (h2 : qg P n l0 C Q0 K Q s (i + 1) l (updo e o.dst v)) : qg P n l0 C Q0 K Q s i (o :: l) e := by
  subst hlo hhi
  cases Q with
  | nil => exact ⟨v, h1, h2⟩
  | cons q Q =>
    unfold qg
    have : Nat.beq i q = false := by simpa [notQ] using hq
    rw [this]
    exact ⟨v, h1, h2⟩
theorem s_split {t : Nat} {p : Prop} [Decidable p] (h : e t = .bool (decide p)) (ht : p → qg P n l0 C Q0 K Q s i l (upd e t (.bool true))) (hf : ¬ p → qg P n l0 C Q0 K Q s i l (upd e t (.bool false))) : qg P n l0 C Q0 K Q s i l e := by
  by_cases hp : p
  · have := ht hp
    rwa [upd_self (by rw [h]; simp [hp])] at this
  · have := hf hp
    rwa [upd_self (by rw [h]; simp [hp])] at this
theorem s_true {t : Nat} {p : Prop} [Decidable p] (h : e t = .bool (decide p)) (hp : p) (ht : qg P n l0 C Q0 K Q s i l (upd e t (.bool true))) : qg P n l0 C Q0 K Q s i l e := s_split h (fun _ => ht) (fun hn => absurd hp hn)
theorem s_false {t : Nat} {p : Prop} [Decidable p] (h : e t = .bool (decide p)) (hp : ¬ p) (ht : qg P n l0 C Q0 K Q s i l (upd e t (.bool false))) : qg P n l0 C Q0 K Q s i l e := s_split h (fun hh => absurd hh hp) (fun _ => ht)
end steps

/-- the values, and what each operation does -/
def QV (P : Program) (n : Nat) (l0 : List Oper) (C : Nat → World → Prop) (Q0 : List Nat) (K : Nat → Env → Prop) (l : List Oper) (Q : List Nat) (s i0 : Nat) (e : Env) : Prop :=
  ∃ v : Nat → Value, (∀ i o, l[i]? = some o → i0 + i ∉ Q → ∀ s' w, loM (cloM l0 []) Q0 (i0 + i) ≤ s' → s' ≤ hiM (cloM l0 []) Q0 (i0 + i) → C s' w → ow P n l0 (fun e' w' => e' = updo (envAt l v e i) o.dst (v i) ∧ C s' w') [o] (envAt l v e i) w) ∧
      (∀ A B q, Q = A ++ q :: B → ∀ i o, l[i]? = some o → q = i0 + i → ∀ w, C (s + A.length) w → ow P n l0 (fun e' w' => e' = updo (envAt l v e i) o.dst (v i) ∧ C (s + A.length + 1) w') [o] (envAt l v e i) w) ∧ K (s + Q.length) (envAt l v e l.length)
theorem qg_vals {l0 : List Oper} {C : Nat → World → Prop} {Q0 : List Nat} {K : Nat → Env → Prop} : ∀ (l : List Oper) (Q : List Nat) (s i0 : Nat) (e : Env), qg P n l0 C Q0 K Q s i0 l e → (∀ q ∈ Q, i0 ≤ q ∧ q < i0 + l.length) → Q.Pairwise (· < ·) →
    QV P n l0 C Q0 K l Q s i0 e
  | [], Q, s, i0, e, h, hQ, _ => by
    have hQ0 : Q = [] := by
      cases Q with
      | nil => rfl
      | cons q Q => have := hQ q (by simp); simp at this; omega
    subst hQ0
    exact ⟨fun _ => undef, fun i o h => by simp at h, fun A B q hA => by simp at hA, h⟩
  | o :: l, Q, s, i0, e, h, hQ, hP => by
    have hcons : ∀ (v0 : Value) (v : Nat → Value) (i : Nat), envAt (o :: l) (fun i => match i with | 0 => v0 | i + 1 => v i) e (i + 1) = envAt l v (updo e o.dst v0) i := by
      intro v0 v i
      induction i with
      | zero => rfl
      | succ i ih =>
        show updo (envAt (o :: l) _ e (i + 1)) (slotOf (o :: l) (i + 1)) (v i) = updo (envAt l v (updo e o.dst v0) i) (slotOf l i) (v i)
        rw [ih]
        rfl
    have quiet : i0 ∉ Q → (∃ v0, (∀ s' w, loM (cloM l0 []) Q0 i0 ≤ s' → s' ≤ hiM (cloM l0 []) Q0 i0 → C s' w → ow P n l0 (fun e' w' => e' = updo e o.dst v0 ∧ C s' w') [o] e w) ∧ qg P n l0 C Q0 K Q s (i0 + 1) l (updo e o.dst v0)) → QV P n l0 C Q0 K (o :: l) Q s i0 e := by
      rintro hni ⟨v0, h1, h2⟩
      have hQ' : ∀ q ∈ Q, i0 + 1 ≤ q ∧ q < i0 + 1 + l.length := fun q hq => by
        have := hQ q hq
        have : q ≠ i0 := fun h => hni (h ▸ hq)
        simp at *
        omega
      obtain ⟨v, hv, hloud, hK⟩ := qg_vals l Q s (i0 + 1) _ h2 hQ' hP
      refine ⟨fun i => match i with | 0 => v0 | i + 1 => v i, ?_, ?_, ?_⟩
      · intro i o' hi hn s' w hlo hhi hC
        cases i with
        | zero => simp at hi; subst hi; exact h1 s' w hlo hhi hC
        | succ i =>
          rw [hcons]
          refine hv i o' (by simpa using hi) (by rwa [Nat.add_assoc, Nat.add_comm 1 i]) s' w ?_ ?_ hC
          · rwa [Nat.add_assoc, Nat.add_comm 1 i]
          · rwa [Nat.add_assoc, Nat.add_comm 1 i]
      · intro A B q hA i o' hi hq w hC
        cases i with
        | zero => exact absurd (by rw [hA]; simp [hq]) hni
        | succ i =>
          rw [hcons]
          exact hloud A B q hA i o' (by simpa using hi) (by omega) w hC
      · rw [List.length_cons, hcons]; exact hK
    cases Q with
    | nil => exact quiet (by simp) h
    | cons q Q =>
      unfold qg at h
      cases hb : Nat.beq i0 q with
      | false =>
        rw [hb] at h
        refine quiet ?_ h
        have hne := Nat.ne_of_beq_eq_false hb
        intro hm
        rcases List.mem_cons.1 hm with h' | h'
        · exact hne h'
        · have := (List.pairwise_cons.1 hP).1 _ h'
          have := (hQ q (by simp)).1
          omega
      | true =>
        rw [hb] at h
        have hiq := Nat.eq_of_beq_eq_true hb
        subst hiq
        obtain ⟨v0, h1, h2⟩ := h
        have hP' := List.pairwise_cons.1 hP
        obtain ⟨v, hv, hloud, hK⟩ := qg_vals l Q (s + 1) (i0 + 1) _ h2 (fun q hq => by
          have := hQ q (by simp [hq])
          have := hP'.1 q hq
          simp at *
          omega) hP'.2
        refine ⟨fun i => match i with | 0 => v0 | i + 1 => v i, ?_, ?_, ?_⟩
        · intro i o' hi hn s' w hlo hhi hC
          cases i with
          | zero => exact absurd (by simp) hn
          | succ i =>
            rw [hcons]
            refine hv i o' (by simpa using hi) (fun hm => hn (by rw [show i0 + (i + 1) = i0 + 1 + i by omega]; simp [hm])) s' w ?_ ?_ hC
            · rwa [Nat.add_assoc, Nat.add_comm 1 i]
            · rwa [Nat.add_assoc, Nat.add_comm 1 i]
        · intro A B q hA i o' hi hq w hC
          cases A with
          | nil =>
            simp at hA
            obtain ⟨rfl, rfl⟩ := hA
            obtain rfl : i = 0 := by omega
            simp at hi
            subst hi
            exact h1 w hC
          | cons a A =>
            simp at hA
            obtain ⟨rfl, rfl⟩ := hA
            cases i with
            | zero => 
              have := hP'.1 q (by simp)
              omega
            | succ i =>
              rw [hcons]
              have e1 : s + (i0 :: A).length = s + 1 + A.length := by simp; omega
              rw [e1] at hC ⊢
              exact hloud A B q rfl i o' (by simpa using hi) (by omega) w hC
        · rw [List.length_cons (a := o), hcons, List.length_cons, show s + (Q.length + 1) = s + 1 + Q.length by omega]
          exact hK

def upM : List Nat → Bool
  | a :: b :: Q => Nat.blt a b && upM (b :: Q)
  | _ => true
theorem upM_spec : ∀ (Q : List Nat), upM Q = true → Q.Pairwise (· < ·)
  | [], _ => List.Pairwise.nil
  | [a], _ => by simp
  | a :: b :: Q, h => by
    simp only [upM, Bool.and_eq_true, Nat.blt_eq] at h
    have ih := upM_spec (b :: Q) h.2
    refine List.pairwise_cons.2 ⟨fun x hx => ?_, ih⟩
    rcases List.mem_cons.1 hx with rfl | hx
    · exact h.1
    · have := (List.pairwise_cons.1 ih).1 x hx
      omega
theorem ordM_spec (M : List Nat) : ∀ (A : List Nat) (a b : Nat) (B : List Nat), ordM M (A ++ a :: b :: B) = true → bitM M b a = true
  | [], a, b, B, h => by simp only [List.nil_append, ordM, Bool.and_eq_true] at h; exact h.1
  | [x], a, b, B, h => by simp only [List.cons_append, List.nil_append, ordM, Bool.and_eq_true] at h; exact h.2.1
  | x :: y :: A, a, b, B, h => by
    simp only [List.cons_append, ordM, Bool.and_eq_true] at h
    exact ordM_spec M (y :: A) a b B h.2
/-- done: so is all ahead of it in the row -/
theorem ahead {l : List Oper} {D : Nat → Bool} (hD : Shut l D) {Q : List Nat} (hQ : ordM (cloM l []) Q = true) (hl : ∀ q ∈ Q, q < l.length) : ∀ (A : List Nat) (q : Nat) (B : List Nat), Q = A ++ q :: B → (D q = true ∨ ∃ o, l[q]? = some o ∧ ∀ d ∈ deps o, D d = true) → ∀ a ∈ A, D a = true := by
  intro A
  induction hn : A.length generalizing A with
  | zero => intro q B _ _ a ha; rw [List.eq_nil_of_length_eq_zero hn] at ha; simp at ha
  | succ m ih =>
    intro q B hQe hq a ha
    obtain ⟨A', x, rfl⟩ : ∃ A' x, A = A' ++ [x] := ⟨A.dropLast, A.getLast (by intro h; rw [h] at hn; simp at hn), (List.dropLast_concat_getLast _).symm⟩
    have hbit : bitM (cloM l []) q x = true := ordM_spec _ A' x q B (by rw [hQe] at hQ; simpa using hQ)
    have hx : D x = true := by
      rcases hq with hq | ⟨o, ho, hd⟩
      · have hlt := hl q (by rw [hQe]; simp)
        exact done_at hD (List.getElem?_eq_getElem hlt) hq hbit
      · exact done_of hD ho hd hbit
    rcases List.mem_append.1 ha with h | h
    · exact ih A' (by simp at hn; omega) x (q :: B) (by rw [hQe]; simp) (.inl hx) a h
    · simp at h; subst h; exact hx

/-- THE OPERATIONS OF Q TURN MEMORY, ONE BEHIND THE OTHER; THE OTHERS OF THE FIRST m ARE QUIET AT EVERY STAGE; THE REST IN THE ORDER OF THE TEXT -/
theorem k_stage {id : Nat} {l : List Oper} (m : Nat) (Q : List Nat) (C : Nat → World → Prop) (hm : P.follows .mixedOrders = true) (hb : backB 0 l = true) (ht : tailB m 0 l = true) (ho : ownB (dsts (l.take m)) = true) (hr : readB l m 0 (l.take m) = true)
    (hu : upM Q = true) (hord : ordM (cloM l []) Q = true) (hQ : Q.all (fun q => Nat.blt q m && Nat.blt q l.length) = true) (hC : C 0 w.drew)
    (h : qg P n l C Q (fun s e' => ∀ w', C s w' → ow P n l (kw P n R k) (l.drop m) e' w') Q 0 0 (l.take m) e) :
    kw P n R (.code (.region id l.toArray true) :: k) e w := by
  have hQ' : ∀ q ∈ Q, q < m ∧ q < l.length := fun q hq => by
    have := List.all_eq_true.1 hQ q hq
    simpa [Nat.blt_eq] using this
  obtain ⟨v, hv, hloud, hK⟩ := qg_vals (l.take m) Q 0 0 e h (fun q hq => by have := hQ' q hq; rw [List.length_take]; omega) (upM_spec Q hu)
  have hslot : ∀ i, i < m → slotOf (l.take m) i = slotOf l i := by
    intro i hi
    rw [← slotOf_eq, ← slotOf_eq, List.getElem?_take, if_pos hi]
  have hlen : (l.take m).length ≤ m := by rw [List.length_take]; omega
  have hown : ∀ i j d, i < m → j < m → slotOf l i = some d → slotOf l j = some d → i = j := by
    intro i j d hi hj h1 h2
    have conv : ∀ i, i < m → slotOf l i = some d → (dsts (l.take m))[i]? = some (some d) := by
      intro i hi h1
      rw [← slotOf_eq] at h1
      cases hl : l[i]? with
      | none => rw [hl] at h1; simp at h1
      | some o => rw [hl] at h1; simp at h1; simp [dsts, List.getElem?_take, hi, hl, h1]
    exact ownB_spec _ ho i j d (conv i hi h1) (conv j hj h2)
  have henv : ∀ i, i ≤ m → ∀ t, (∀ j, j < i → slotOf l j ≠ some t) → envAt (l.take m) v e i t = e t := by
    intro i
    induction i with
    | zero => intro _ t _; rfl
    | succ i ih =>
      intro hi t h
      show updo (envAt (l.take m) v e i) (slotOf (l.take m) i) (v i) t = e t
      rw [hslot i (by omega)]
      cases hs : slotOf l i with
      | none => exact ih (by omega) t (fun j hj => h j (by omega))
      | some d =>
        have hne : t ≠ d := fun hh => h i (by omega) (by rw [hs, hh])
        show upd _ d (v i) t = e t
        unfold upd
        rw [beqf hne]
        exact ih (by omega) t (fun j hj => h j (by omega))
  have hval : ∀ i, i ≤ m → ∀ j, j < i → ∀ t, slotOf l j = some t → envAt (l.take m) v e i t = v j := by
    intro i
    induction i with
    | zero => intro _ j hj; omega
    | succ i ih =>
      intro hi j hj t hs
      show updo (envAt (l.take m) v e i) (slotOf (l.take m) i) (v i) t = v j
      rw [hslot i (by omega)]
      by_cases hji : j = i
      · subst hji
        rw [hs]
        simp [updo, upd]
      · cases hsi : slotOf l i with
        | none => exact ih (by omega) j (by omega) t hs
        | some d =>
          have hne : t ≠ d := fun hh => hji (hown j i d (by omega) (by omega) (by rw [hs, hh]) hsi)
          show upd _ d (v i) t = v j
          unfold upd
          rw [beqf hne]
          exact ih (by omega) j (by omega) t hs
  refine k_anyG m (fun _ _ => True) (fun i u _ => slotOf l i = none ∨ u = v i) [] (fun D w' => C (stg D Q) w') hm hb ht ho hr (fun _ => trivial) (fun _ _ _ _ _ => trivial) (fun _ _ _ _ h _ => h) (fun _ h => by simp at h) ?_ ?_ ?_
  · have : stg (fun _ => false) Q = 0 := by cases Q <;> rfl
    rw [this]; exact hC
  · intro i o him hl D e' w' hDi hdep hSh hG _ hA hD
    have hlm : (l.take m)[i]? = some o := by rw [List.getElem?_take, if_pos him]; exact hl
    obtain ⟨h1, h2, h3⟩ := readB_spec l m _ 0 hr i o hlm
    rw [Nat.zero_add] at h1
    have hsame : ∀ t, t ∈ o.looksAt l.toArray → envAt (l.take m) v e i t = e' t := by
      intro t htl
      by_cases hex : ∃ j, j < m ∧ slotOf l j = some t
      · obtain ⟨j, hjm, hs⟩ := hex
        have hji : j ≠ i := by
          rintro rfl
          rw [slotOf_dst hl] at hs
          exact h3 t hs htl
        have hjd := h1 j t hjm hji hs htl
        have hlt := backB_spec l 0 hb i o hl j hjd
        rw [hval i (by omega) j (by omega) t hs]
        rcases hD j hjd t hs with hn | hn
        · rw [hs] at hn; cases hn
        · exact hn.symm
      · have hno : ∀ j, j < m → slotOf l j ≠ some t := fun j hj hs => hex ⟨j, hj, hs⟩
        rw [henv i (by omega) t (fun j hj => hno j (by omega)), hA t hno]
    have fin : ∀ s', (ow P n l (fun e2 w2 => e2 = updo (envAt (l.take m) v e i) o.dst (v i) ∧ C s' w2) [o] (envAt (l.take m) v e i) w') → stg (fun x => if x = i then true else D x) Q = s' →
        ow P n l (fun e2 w2 => True ∧ (slotOf l i = none ∨ rdo e2 o.dst = v i) ∧ (i ∈ [] → w'.heap.size ≤ vb (rdo e2 o.dst)) ∧ C (stg (fun x => if x = i then true else D x) Q) w2) [o] e' w' := by
      intro s' hrun hs'
      refine ow_mono ?_ (ow_congr (e1 := envAt (l.take m) v e i) (e2 := e') h2 hsame hrun)
      rintro e2 w2 ⟨rfl, hC2⟩
      refine ⟨trivial, ?_, fun h => by simp at h, hs' ▸ hC2⟩
      rw [slotOf_dst hl]
      cases o.dst with
      | none => exact .inl rfl
      | some d => right; simp [rdo, updo, upd]
    by_cases hiQ : i ∈ Q
    · obtain ⟨A, B, hAB⟩ := List.append_of_mem hiQ
      have hahead := ahead hSh hord (fun q hq => (hQ' q hq).2) A i B hAB (.inr ⟨o, hl, hdep⟩)
      have hs0 : stg D Q = A.length := by
        rw [hAB, stg_split A B i hahead, stg, hDi]
        rfl
      have hrun := hloud A B i hAB i o hlm (by omega) w' (by rw [Nat.zero_add, ← hs0]; exact hG)
      refine fin _ hrun ?_
      rw [Nat.zero_add]
      have hA1 : ∀ a ∈ A, (if a = i then true else D a) = true := fun a ha => by
        split
        · rfl
        · exact hahead a ha
      rw [hAB, stg_split (D := fun x => if x = i then true else D x) A B i hA1, stg]
      simp only [if_true, cond_true]
      cases B with
      | nil => rfl
      | cons b B =>
        have hpw := upM_spec Q hu
        rw [hAB] at hpw
        have hlt : i < b := (List.pairwise_cons.1 (List.pairwise_append.1 hpw).2.1).1 b (by simp)
        have hDb : D b = false := by
          cases hbv : D b with
          | false => rfl
          | true =>
            have := ahead hSh hord (fun q hq => (hQ' q hq).2) (A ++ [i]) b B (by rw [hAB]; simp) (.inl hbv) i (by simp)
            rw [hDi] at this
            cases this
        have hne : ¬ b = i := by omega
        rw [stg]
        simp [hne, hDb]
    · refine fin _ (hv i o hlm (by rwa [Nat.zero_add]) (stg D Q) w' ?_ ?_ hG) ?_
      · rw [Nat.zero_add]
        exact stg_mono Q (fun q _ hq => done_of hSh hl hdep hq)
      · rw [Nat.zero_add]
        refine stg_mono Q (fun q hqm hq => ?_)
        have hql := (hQ' q hqm).2
        cases hbt : bitM (cloM l []) q i with
        | false => rfl
        | true =>
          have := done_at hSh (List.getElem?_eq_getElem hql) hq hbt
          rw [hDi] at this
          cases this
      · refine stg_congr Q (fun q hq => ?_)
        have : ¬ q = i := fun h => hiQ (h ▸ hq)
        simp [this]
  · intro D e' w' hall hG _ hA hV _ _
    have heq : e' = envAt (l.take m) v e (l.take m).length := by
      funext t
      by_cases hex : ∃ j, j < m ∧ slotOf l j = some t
      · obtain ⟨j, hjm, hs⟩ := hex
        have hjl : j < (l.take m).length := by
          rw [List.length_take]
          rw [← slotOf_eq] at hs
          cases hl : l[j]? with
          | none => rw [hl] at hs; simp at hs
          | some o => have := (List.getElem?_eq_some_iff.1 hl).1; omega
        rw [hval _ hlen j hjl t hs]
        rcases hV j hjm t hs with hn | hn
        · rw [hs] at hn; cases hn
        · exact hn
      · have hno : ∀ j, j < m → slotOf l j ≠ some t := fun j hj hs => hex ⟨j, hj, hs⟩
        rw [henv _ hlen t (fun j hj => hno j (by omega)), hA t hno]
    rw [heq]
    have hst : stg D Q = Q.length := by
      have : ∀ (Q' : List Nat), (∀ q ∈ Q', D q = true) → stg D Q' = Q'.length := by
        intro Q'
        induction Q' with
        | nil => intro _; rfl
        | cons q Q' ih =>
          intro h
          rw [stg, h q (by simp), ih (fun x hx => h x (by simp [hx]))]
          rfl
      exact this Q (fun q hq => hall q (hQ' q hq).1 (hQ' q hq).2)
    rw [Nat.zero_add] at hK
    exact hK w' (hst ▸ hG)

end E
end Go.Proofs.YtiapgmfooclpcaaDoor

/- More rules: max of two integers; arrays of uint32 in a block. No condition. -/
namespace Go.Proofs.YtiapgmfooclpcaaDoor
open Go.RowKit
set_option linter.unusedVariables false
set_option linter.unusedSimpArgs false
namespace E
theorem o_max {P : Program} {n : Nat} {e : Env} {w : World} {l0 l : List Oper} {K : Env → World → Prop} {d : Nat} {T : TypeId} {pos : String} {af : Array Edge} {x y : Operand} {k : IntKind} {a b : Int} {ts : Array TypeId} (hx : ev n e x = .int k a) (hy : ev n e y = .int k b) (h : ow P n l0 K l (upd e d (.int k (if a < b then b else a))) w) :
    ow P n l0 K (⟨some d, .call ⟨.builtin .max, #[x, y], ts⟩, T, pos, af, none⟩ :: l) e w := by
  refine o_run (v := .int k (if a < b then b else a)) (w' := w) ?_ h
  simp [execOp, resolve, invoke, builtin, hx, hy, Builtin.max_, Builtin.max2]
/-- an array of uint32 -/
def arrU (f : Nat → Nat) (n : Nat) : Array Value := ((List.range n).map fun i => u32v (BitVec.ofNat 32 (f i))).toArray
theorem arrU_at (f : Nat → Nat) (n i : Nat) (h : i < n) : (arrU f n)[i]? = some (.int .u32 ((BitVec.ofNat 32 (f i)).toNat : Int)) := by
  simp [arrU, u32v, h]
theorem arrU_size (f : Nat → Nat) (n : Nat) : (arrU f n).size = n := by simp [arrU]
theorem arrU_set (f : Nat → Nat) (n i x : Nat) (h : i < n) : (arrU f n).setIfInBounds i (.int .u32 ((BitVec.ofNat 32 x).toNat : Int)) = arrU (fun j => if j = i then x else f j) n := by
  apply Array.ext
  · simp [arrU]
  · intro j h1 h2
    simp [arrU] at h1
    by_cases hj : j = i
    · subst hj; simp [arrU, u32v]
    · rw [Array.getElem_setIfInBounds (by simpa [arrU] using h1), if_neg (fun e => hj e.symm)]
      simp [arrU, u32v, hj]
theorem arrU_congr {f g : Nat → Nat} (n : Nat) (h : ∀ i, i < n → f i = g i) : arrU f n = arrU g n := by
  unfold arrU
  congr 1
  apply List.map_congr_left
  intro i hi
  rw [h i (List.mem_range.1 hi)]
theorem Mp.blk {κ : Type} {w : World} {r b : Nat} {kv : κ → Value} {m : List (κ × Value)} {cs : Array Value} {T : TypeId} (h : Mp w r kv m) (hb : Blk w b cs T) : b ≠ r := by
  rintro rfl
  obtain ⟨es, clock, h, _⟩ := h
  unfold Blk at hb
  rw [h] at hb
  cases hb
theorem Mp.obj {κ : Type} {w : World} {r : Nat} {kv : κ → Value} {m : List (κ × Value)} (h : Mp w r kv m) : ∃ es clock, w.heap[r]? = some (.map es clock) ∧ es.toList.map (fun x => (x.key, x.val)) = m.map (fun p => (kv p.1, p.2)) ∧ ∀ x ∈ es.toList, x.born < clock := h
/-- a map with one more entry -/
theorem mp_push {κ : Type} [DecidableEq κ] {w : World} {r clock : Nat} {kv : κ → Value} {m : List (κ × Value)} {es : Array MapEntry} {q : κ} {v : Value} (hh : w.heap[r]? = some (.map (es.push ⟨kv q, v, clock⟩) (clock + 1))) (he : es.toList.map (fun x => (x.key, x.val)) = m.map (fun p => (kv p.1, p.2))) (hb : ∀ x ∈ es.toList, x.born < clock) (hn : getM m q = none) : Mp w r kv (putM m q v) := by
  refine ⟨_, _, hh, ?_, ?_⟩
  · rw [putM_new hn]
    simp [he]
  · intro x hx
    simp at hx
    rcases hx with hx | rfl
    · have := hb x (by simpa using hx); omega
    · simp
/-- a result that lies in memory, and one in a slot -/
theorem ret_cell1 {P : Program} {n : Nat} {e : Env} {w : World} {F : Func} {S : Value → World → Prop} {a t u b : Nat} {xs : List Value} {v2 : Value} (hr : F.results = #[.cell a t, .tmp u]) (ha : ev n e (.tmp a) = .pointer (some ⟨b, 0, none⟩)) (ht : isAggB P t = true) (hs : szB P t xs.length = true)
    (hc : ∀ j v, xs[j]? = some v → w.cell? ⟨b, j, none⟩ = some v) (hu : ev n e (.tmp u) = v2) (h : S (.tuple #[.agg xs.toArray, v2]) w) : retR P F n S .ret e w := by
  refine ⟨.tuple #[.agg xs.toArray, v2], ?_, h⟩
  have hg : ∀ t, (act n e).tmps.getD t undef = ev n e (.tmp t) := fun t => by rw [← act_eval]; rfl
  have hl := run_loadCellsFrom (P := P) (w := w) (b := b) (o := 0) xs 0 #[] (fun j v hv => by rw [Nat.zero_add, Nat.zero_add]; exact hc j v hv)
  have hlv : (loadVar t ⟨b, 0, none⟩).run P w = .ok (.agg xs.toArray) w := by
    simp [loadVar, run_isAggT ht, run_sizeOf hs, loadCells, hl]
  have hm : (F.results.mapM (fun
      | .tmp t => pure ((act n e).tmps.getD t undef)
      | .cell a t => do loadVar t (← asAddr ((act n e).tmps.getD a undef)) : ResultVar → Sem Value)).run P w = .ok #[.agg xs.toArray, v2] w := by
    rw [hr]
    simp only [Array.mapM_eq_foldlM, ← Array.foldlM_toList, List.foldlM_cons, List.foldlM_nil, Sem.run_bind, Sem.run_map, Sem.run_pure, Result.andThen_ok, hg, ha, hu, asAddr, hlv]
    rfl
  have hres : (results F (act n e).tmps).run P w = ((F.results.mapM (fun
      | .tmp t => pure ((act n e).tmps.getD t undef)
      | .cell a t => do loadVar t (← asAddr ((act n e).tmps.getD a undef)) : ResultVar → Sem Value)).run P w).andThen
        (fun vs w' => (pure (if h : vs.size = 1 then vs[0] else .tuple vs) : Sem Value).run P w') := Sem.run_bind P w _ _
  rw [hres, hm, Result.andThen_ok, Sem.run_pure]
  simp
end E
end Go.Proofs.YtiapgmfooclpcaaDoor
