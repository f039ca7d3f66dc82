/- The rules of the operations: one for each kind of operation and shape of operands, over the engine. No condition. -/
import Derived.Test.YtbfphjhahgpndaaEng
import Derived.IntWalk
namespace Go.Proofs.Ytbfphjhahgpndaa
open Go.RowKit
set_option linter.unusedVariables false
set_option linter.unusedSimpArgs false
namespace E

theorem wrap_in {k : IntKind} {m : Int} (h : k.min ≤ m ∧ m ≤ k.max) : k.wrap m = m := by
  cases k <;> simp only [IntKind.min, IntKind.max, IntKind.signed, IntKind.bits] at h <;> simp only [IntKind.wrap, IntKind.signed, IntKind.bits] <;> simp at h ⊢ <;> (try split) <;> omega

theorem wrap_nat_u {k : IntKind} (hk : k.signed = false) (m : Int) : k.wrap m = ((BitVec.ofInt k.bits m).toNat : Int) := by
  cases k <;> simp [IntKind.signed] at hk <;> simp [IntKind.wrap, IntKind.signed, IntKind.bits, BitVec.toNat_ofInt] <;> omega

def mv : Op → Option Operand
  | .move x => some x
  | .assign x => some x
  | _ => none

variable {P : Program} {n : Nat} {e : Env} {w : World} {l0 l : List Oper} {K : Env → World → Prop} {d : Nat} {T : TypeId} {pos : String} {af : Array Edge} {op : Op} {x y : Operand} {TX TY : TypeId}

theorem m_any {v : Value} (ho : mv op = some x) (hx : ev n e x = v) (h : ow P n l0 K l (upd e d v) w) : ow P n l0 K (⟨some d, op, T, pos, af, none⟩ :: l) e w := by
  refine o_run (v := v) (w' := w) ?_ h
  cases op <;> simp [mv] at ho <;> subst ho <;> simp [execOp, hx]
theorem m_int {k : IntKind} {a : Int} (ho : mv op = some x) (hx : ev n e x = .int k a) (h : ow P n l0 K l (upd e d (.int k a)) w) : ow P n l0 K (⟨some d, op, T, pos, af, none⟩ :: l) e w := m_any ho hx h
theorem m_bool {a : Bool} (ho : mv op = some x) (hx : ev n e x = .bool a) (h : ow P n l0 K l (upd e d (.bool a)) w) : ow P n l0 K (⟨some d, op, T, pos, af, none⟩ :: l) e w := m_any ho hx h
theorem m_ptr {a : Option Addr} (ho : mv op = some x) (hx : ev n e x = .pointer a) (h : ow P n l0 K l (upd e d (.pointer a)) w) : ow P n l0 K (⟨some d, op, T, pos, af, none⟩ :: l) e w := m_any ho hx h
theorem m_sl {a : Option Addr} {i c : Nat} (ho : mv op = some x) (hx : ev n e x = .slice a i c) (h : ow P n l0 K l (upd e d (.slice a i c)) w) : ow P n l0 K (⟨some d, op, T, pos, af, none⟩ :: l) e w := m_any ho hx h
theorem m_str {a : ByteArray} (ho : mv op = some x) (hx : ev n e x = .string a) (h : ow P n l0 K l (upd e d (.string a)) w) : ow P n l0 K (⟨some d, op, T, pos, af, none⟩ :: l) e w := m_any ho hx h
theorem m_agg {a : Array Value} (ho : mv op = some x) (hx : ev n e x = .agg a) (h : ow P n l0 K l (upd e d (.agg a)) w) : ow P n l0 K (⟨some d, op, T, pos, af, none⟩ :: l) e w := m_any ho hx h
theorem m_map {a : Option Nat} (ho : mv op = some x) (hx : ev n e x = .map a) (h : ow P n l0 K l (upd e d (.map a)) w) : ow P n l0 K (⟨some d, op, T, pos, af, none⟩ :: l) e w := m_any ho hx h

theorem pick_b {b : Bool} {c : Operand} {v : Value} (hc : ev n e c = .bool b) (hv : (bif b then ev n e x else ev n e y) = v) (h : ow P n l0 K l (upd e d v) w) :
    ow P n l0 K (⟨some d, .pick c x y, T, pos, af, none⟩ :: l) e w := by
  refine o_run (v := v) (w' := w) ?_ h
  subst hv
  cases b <;> simp [execOp, hc, asBool]
theorem pick_t {c : Operand} {b : Bool} (hc : ev n e c = .bool true) (hv : ev n e x = .bool b) (h : ow P n l0 K l (upd e d (.bool b)) w) :
    ow P n l0 K (⟨some d, .pick c x y, T, pos, af, none⟩ :: l) e w := pick_b hc hv h
theorem pick_f {c : Operand} {b : Bool} (hc : ev n e c = .bool false) (hv : ev n e y = .bool b) (h : ow P n l0 K l (upd e d (.bool b)) w) :
    ow P n l0 K (⟨some d, .pick c x y, T, pos, af, none⟩ :: l) e w := pick_b hc hv h

theorem b_add {k : IntKind} {a b : Int} (hx : ev n e x = .int k a) (hy : ev n e y = .int k b)  (h : ow P n l0 K l (upd e d (.int k (k.wrap (a + b)))) w) :
    ow P n l0 K (⟨some d, .binOp .add TX x y TY, T, pos, af, none⟩ :: l) e w := by
  refine o_run (v := .int k (k.wrap (a + b))) (w' := w) ?_ h
  cases k <;> simp [execOp, eqGuard, hx, hy, binOp, Op.intArith, Op.intDiv, Op.intBits, Op.intCmp]

theorem b_sub {k : IntKind} {a b : Int} (hx : ev n e x = .int k a) (hy : ev n e y = .int k b)  (h : ow P n l0 K l (upd e d (.int k (k.wrap (a - b)))) w) :
    ow P n l0 K (⟨some d, .binOp .sub TX x y TY, T, pos, af, none⟩ :: l) e w := by
  refine o_run (v := .int k (k.wrap (a - b))) (w' := w) ?_ h
  cases k <;> simp [execOp, eqGuard, hx, hy, binOp, Op.intArith, Op.intDiv, Op.intBits, Op.intCmp]

theorem b_mul {k : IntKind} {a b : Int} (hx : ev n e x = .int k a) (hy : ev n e y = .int k b)  (h : ow P n l0 K l (upd e d (.int k (k.wrap (a * b)))) w) :
    ow P n l0 K (⟨some d, .binOp .mul TX x y TY, T, pos, af, none⟩ :: l) e w := by
  refine o_run (v := .int k (k.wrap (a * b))) (w' := w) ?_ h
  cases k <;> simp [execOp, eqGuard, hx, hy, binOp, Op.intArith, Op.intDiv, Op.intBits, Op.intCmp]

theorem b_quo {k : IntKind} {a b : Int} (hx : ev n e x = .int k a) (hy : ev n e y = .int k b) (hb : ¬ b = 0) (h : ow P n l0 K l (upd e d (.int k (k.wrap (a.tdiv b)))) w) :
    ow P n l0 K (⟨some d, .binOp .quo TX x y TY, T, pos, af, none⟩ :: l) e w := by
  refine o_run (v := .int k (k.wrap (a.tdiv b))) (w' := w) ?_ h
  cases k <;> simp [execOp, eqGuard, hx, hy, binOp, Op.intArith, Op.intDiv, Op.intBits, Op.intCmp, hb]

theorem b_rem {k : IntKind} {a b : Int} (hx : ev n e x = .int k a) (hy : ev n e y = .int k b) (hb : ¬ b = 0) (h : ow P n l0 K l (upd e d (.int k (a.tmod b))) w) :
    ow P n l0 K (⟨some d, .binOp .rem TX x y TY, T, pos, af, none⟩ :: l) e w := by
  refine o_run (v := .int k (a.tmod b)) (w' := w) ?_ h
  cases k <;> simp [execOp, eqGuard, hx, hy, binOp, Op.intArith, Op.intDiv, Op.intBits, Op.intCmp, hb]

theorem b_and {k : IntKind} {a b : Int} (hx : ev n e x = .int k a) (hy : ev n e y = .int k b)  (h : ow P n l0 K l (upd e d (.int k (k.wrap (BitVec.ofInt k.bits a &&& BitVec.ofInt k.bits b).toNat))) w) :
    ow P n l0 K (⟨some d, .binOp .and TX x y TY, T, pos, af, none⟩ :: l) e w := by
  refine o_run (v := .int k (k.wrap (BitVec.ofInt k.bits a &&& BitVec.ofInt k.bits b).toNat)) (w' := w) ?_ h
  cases k <;> simp [execOp, eqGuard, hx, hy, binOp, Op.intArith, Op.intDiv, Op.intBits, Op.intCmp]

theorem b_or {k : IntKind} {a b : Int} (hx : ev n e x = .int k a) (hy : ev n e y = .int k b)  (h : ow P n l0 K l (upd e d (.int k (k.wrap (BitVec.ofInt k.bits a ||| BitVec.ofInt k.bits b).toNat))) w) :
    ow P n l0 K (⟨some d, .binOp .or TX x y TY, T, pos, af, none⟩ :: l) e w := by
  refine o_run (v := .int k (k.wrap (BitVec.ofInt k.bits a ||| BitVec.ofInt k.bits b).toNat)) (w' := w) ?_ h
  cases k <;> simp [execOp, eqGuard, hx, hy, binOp, Op.intArith, Op.intDiv, Op.intBits, Op.intCmp]

theorem b_xor {k : IntKind} {a b : Int} (hx : ev n e x = .int k a) (hy : ev n e y = .int k b)  (h : ow P n l0 K l (upd e d (.int k (k.wrap (BitVec.ofInt k.bits a ^^^ BitVec.ofInt k.bits b).toNat))) w) :
    ow P n l0 K (⟨some d, .binOp .xor TX x y TY, T, pos, af, none⟩ :: l) e w := by
  refine o_run (v := .int k (k.wrap (BitVec.ofInt k.bits a ^^^ BitVec.ofInt k.bits b).toNat)) (w' := w) ?_ h
  cases k <;> simp [execOp, eqGuard, hx, hy, binOp, Op.intArith, Op.intDiv, Op.intBits, Op.intCmp]

theorem b_andNot {k : IntKind} {a b : Int} (hx : ev n e x = .int k a) (hy : ev n e y = .int k b)  (h : ow P n l0 K l (upd e d (.int k (k.wrap (BitVec.ofInt k.bits a &&& ~~~ BitVec.ofInt k.bits b).toNat))) w) :
    ow P n l0 K (⟨some d, .binOp .andNot TX x y TY, T, pos, af, none⟩ :: l) e w := by
  refine o_run (v := .int k (k.wrap (BitVec.ofInt k.bits a &&& ~~~ BitVec.ofInt k.bits b).toNat)) (w' := w) ?_ h
  cases k <;> simp [execOp, eqGuard, hx, hy, binOp, Op.intArith, Op.intDiv, Op.intBits, Op.intCmp]

theorem b_lss {k : IntKind} {a b : Int} (hx : ev n e x = .int k a) (hy : ev n e y = .int k b)  (h : ow P n l0 K l (upd e d (.bool (decide (a < b)))) w) :
    ow P n l0 K (⟨some d, .binOp .lss TX x y TY, T, pos, af, none⟩ :: l) e w := by
  refine o_run (v := .bool (decide (a < b))) (w' := w) ?_ h
  cases k <;> simp [execOp, eqGuard, hx, hy, binOp, Op.intArith, Op.intDiv, Op.intBits, Op.intCmp]

theorem b_leq {k : IntKind} {a b : Int} (hx : ev n e x = .int k a) (hy : ev n e y = .int k b)  (h : ow P n l0 K l (upd e d (.bool (decide (a ≤ b)))) w) :
    ow P n l0 K (⟨some d, .binOp .leq TX x y TY, T, pos, af, none⟩ :: l) e w := by
  refine o_run (v := .bool (decide (a ≤ b))) (w' := w) ?_ h
  cases k <;> simp [execOp, eqGuard, hx, hy, binOp, Op.intArith, Op.intDiv, Op.intBits, Op.intCmp]

theorem b_gtr {k : IntKind} {a b : Int} (hx : ev n e x = .int k a) (hy : ev n e y = .int k b)  (h : ow P n l0 K l (upd e d (.bool (decide (b < a)))) w) :
    ow P n l0 K (⟨some d, .binOp .gtr TX x y TY, T, pos, af, none⟩ :: l) e w := by
  refine o_run (v := .bool (decide (b < a))) (w' := w) ?_ h
  cases k <;> simp [execOp, eqGuard, hx, hy, binOp, Op.intArith, Op.intDiv, Op.intBits, Op.intCmp]

theorem b_geq {k : IntKind} {a b : Int} (hx : ev n e x = .int k a) (hy : ev n e y = .int k b)  (h : ow P n l0 K l (upd e d (.bool (decide (b ≤ a)))) w) :
    ow P n l0 K (⟨some d, .binOp .geq TX x y TY, T, pos, af, none⟩ :: l) e w := by
  refine o_run (v := .bool (decide (b ≤ a))) (w' := w) ?_ h
  cases k <;> simp [execOp, eqGuard, hx, hy, binOp, Op.intArith, Op.intDiv, Op.intBits, Op.intCmp]

theorem b_eql {k : IntKind} {a b : Int} (hx : ev n e x = .int k a) (hy : ev n e y = .int k b) (h : ow P n l0 K l (upd e d (.bool (decide (a = b)))) w) :
    ow P n l0 K (⟨some d, .binOp .eql TX x y TY, T, pos, af, none⟩ :: l) e w := by
  refine o_run (v := .bool (decide (a = b))) (w' := w) ?_ h
  have : (a == b) = decide (a = b) := by by_cases hh : a = b <;> simp [hh]
  cases k <;> simp [execOp, eqGuard, hx, hy, binOp, Op.intCmp, this]
theorem b_neq {k : IntKind} {a b : Int} (hx : ev n e x = .int k a) (hy : ev n e y = .int k b) (h : ow P n l0 K l (upd e d (.bool (decide (a ≠ b)))) w) :
    ow P n l0 K (⟨some d, .binOp .neq TX x y TY, T, pos, af, none⟩ :: l) e w := by
  refine o_run (v := .bool (decide (a ≠ b))) (w' := w) ?_ h
  have : (a != b) = decide (a ≠ b) := by by_cases hh : a = b <;> simp [hh]
  cases k <;> simp [execOp, eqGuard, hx, hy, binOp, Op.intCmp, this]
theorem b_shl {k k' : IntKind} {a b : Int} (hx : ev n e x = .int k a) (hy : ev n e y = .int k' b) (hb : 0 ≤ b) (h : ow P n l0 K l (upd e d (.int k (k.wrap (a * 2 ^ min b.toNat k.bits)))) w) :
    ow P n l0 K (⟨some d, .binOp .shl TX x y TY, T, pos, af, none⟩ :: l) e w := by
  refine o_run (v := .int k (k.wrap (a * 2 ^ min b.toNat k.bits))) (w' := w) ?_ h
  simp [execOp, eqGuard, hx, hy, binOp, Op.shift, Int.not_lt.2 hb]
theorem b_shr {k k' : IntKind} {a b : Int} (hx : ev n e x = .int k a) (hy : ev n e y = .int k' b) (hb : 0 ≤ b) (h : ow P n l0 K l (upd e d (.int k (a.fdiv (2 ^ min b.toNat k.bits)))) w) :
    ow P n l0 K (⟨some d, .binOp .shr TX x y TY, T, pos, af, none⟩ :: l) e w := by
  refine o_run (v := .int k (a.fdiv (2 ^ min b.toNat k.bits))) (w' := w) ?_ h
  simp [execOp, eqGuard, hx, hy, binOp, Op.shift, Int.not_lt.2 hb]
theorem eq_bool (d : Nat) {TX : TypeId} (hu : P.underlying TX = some .bool) (a b : Bool) : (Op.equalIn (d + 1) TX (.bool a) (.bool b)).run P w = .ok (a == b) w := by
  simp [Op.equalIn, run_underlying hu]
theorem eq_nil (d : Nat) {TX E : TypeId} (hu : P.underlying TX = some (.pointer E)) (a : Option Addr) : (Op.equalIn (d + 1) TX (.pointer a) (.pointer none)).run P w = .ok (a.isNone) w := by
  cases a <;> simp [Op.equalIn, run_underlying hu]
theorem eq_snil (d : Nat) {TX E : TypeId} (hu : P.underlying TX = some (.slice E)) (a : Option Addr) (i c i' c' : Nat) : (Op.equalIn (d + 1) TX (.slice a i c) (.slice none i' c')).run P w = .ok (a.isNone) w := by
  cases a <;> simp [Op.equalIn, run_underlying hu]
theorem eqv {TX : TypeId} {v u : Value} {b : Bool} (h : ∀ d, (Op.equalIn (d + 1) TX v u).run P w = .ok b w) : (Op.equal TX v u).run P w = .ok b w := h 9999
theorem b_eqlb {a b : Bool} (hu : P.underlying TX = some .bool) (hx : ev n e x = .bool a) (hy : ev n e y = .bool b) (h : ow P n l0 K l (upd e d (.bool (decide (a = b)))) w) :
    ow P n l0 K (⟨some d, .binOp .eql TX x y TY, T, pos, af, none⟩ :: l) e w := by
  refine o_run (v := .bool (decide (a = b))) (w' := w) ?_ h
  have hr := eqv (P := P) (w := w) (fun d => eq_bool d hu a b)
  have hb : (a == b) = decide (a = b) := by cases a <;> cases b <;> rfl
  simp only [execOp, hx, hy, binOp, eqGuard, Sem.run_bind, hr, Result.andThen_ok, Sem.run_pure]
  simp [hb, hr, binOp]
theorem b_neqb {a b : Bool} (hu : P.underlying TX = some .bool) (hx : ev n e x = .bool a) (hy : ev n e y = .bool b) (h : ow P n l0 K l (upd e d (.bool (decide (a ≠ b)))) w) :
    ow P n l0 K (⟨some d, .binOp .neq TX x y TY, T, pos, af, none⟩ :: l) e w := by
  refine o_run (v := .bool (decide (a ≠ b))) (w' := w) ?_ h
  have hr := eqv (P := P) (w := w) (fun d => eq_bool d hu a b)
  have hb : (!(a == b)) = decide (a ≠ b) := by cases a <;> cases b <;> rfl
  simp only [execOp, hx, hy, binOp, eqGuard, Sem.run_bind, hr, Result.andThen_ok, Sem.run_pure]
  simp [hb, hr, binOp]
theorem b_eqlp {a : Option Addr} {E : TypeId} (hu : P.underlying TX = some (.pointer E)) (hx : ev n e x = .pointer a) (hy : ev n e y = .pointer none) (h : ow P n l0 K l (upd e d (.bool (decide (a = none)))) w) :
    ow P n l0 K (⟨some d, .binOp .eql TX x y TY, T, pos, af, none⟩ :: l) e w := by
  refine o_run (v := .bool (decide (a = none))) (w' := w) ?_ h
  have hr := eqv (P := P) (w := w) (fun d => eq_nil d hu a)
  have hb : a.isNone = decide (a = none) := by cases a <;> rfl
  simp only [execOp, hx, hy, binOp, eqGuard, Sem.run_bind, hr, Result.andThen_ok, Sem.run_pure]
  simp [hb, hr, binOp]
theorem b_neqp {a : Option Addr} {E : TypeId} (hu : P.underlying TX = some (.pointer E)) (hx : ev n e x = .pointer a) (hy : ev n e y = .pointer none) (h : ow P n l0 K l (upd e d (.bool (decide (a ≠ none)))) w) :
    ow P n l0 K (⟨some d, .binOp .neq TX x y TY, T, pos, af, none⟩ :: l) e w := by
  refine o_run (v := .bool (decide (a ≠ none))) (w' := w) ?_ h
  have hr := eqv (P := P) (w := w) (fun d => eq_nil d hu a)
  have hb : (!a.isNone) = decide (a ≠ none) := by cases a <;> rfl
  simp only [execOp, hx, hy, binOp, eqGuard, Sem.run_bind, hr, Result.andThen_ok, Sem.run_pure]
  simp [hb, hr, binOp]
theorem b_eqls {a : Option Addr} {i c i' c' : Nat} {E : TypeId} (hu : P.underlying TX = some (.slice E)) (hx : ev n e x = .slice a i c) (hy : ev n e y = .slice none i' c') (h : ow P n l0 K l (upd e d (.bool (decide (a = none)))) w) :
    ow P n l0 K (⟨some d, .binOp .eql TX x y TY, T, pos, af, none⟩ :: l) e w := by
  refine o_run (v := .bool (decide (a = none))) (w' := w) ?_ h
  have hr := eqv (P := P) (w := w) (fun d => eq_snil d hu a i c i' c')
  have hb : a.isNone = decide (a = none) := by cases a <;> rfl
  simp only [execOp, hx, hy, binOp, eqGuard, Sem.run_bind, hr, Result.andThen_ok, Sem.run_pure]
  simp [hb, hr, binOp]
theorem b_neqs {a : Option Addr} {i c i' c' : Nat} {E : TypeId} (hu : P.underlying TX = some (.slice E)) (hx : ev n e x = .slice a i c) (hy : ev n e y = .slice none i' c') (h : ow P n l0 K l (upd e d (.bool (decide (a ≠ none)))) w) :
    ow P n l0 K (⟨some d, .binOp .neq TX x y TY, T, pos, af, none⟩ :: l) e w := by
  refine o_run (v := .bool (decide (a ≠ none))) (w' := w) ?_ h
  have hr := eqv (P := P) (w := w) (fun d => eq_snil d hu a i c i' c')
  have hb : (!a.isNone) = decide (a ≠ none) := by cases a <;> rfl
  simp only [execOp, hx, hy, binOp, eqGuard, Sem.run_bind, hr, Result.andThen_ok, Sem.run_pure]
  simp [hb, hr, binOp]
theorem n_add {a b : Int} (hx : ev n e x = .int .i64 a) (hy : ev n e y = .int .i64 b) (hr : -9223372036854775808 ≤ a + b ∧ a + b ≤ 9223372036854775807) (h : ow P n l0 K l (upd e d (.int .i64 (a + b))) w) :
    ow P n l0 K (⟨some d, .binOp .add TX x y TY, T, pos, af, none⟩ :: l) e w :=
  b_add hx hy (by rw [IntWalk.i64_in _ hr]; exact h)

theorem n_sub {a b : Int} (hx : ev n e x = .int .i64 a) (hy : ev n e y = .int .i64 b) (hr : -9223372036854775808 ≤ a - b ∧ a - b ≤ 9223372036854775807) (h : ow P n l0 K l (upd e d (.int .i64 (a - b))) w) :
    ow P n l0 K (⟨some d, .binOp .sub TX x y TY, T, pos, af, none⟩ :: l) e w :=
  b_sub hx hy (by rw [IntWalk.i64_in _ hr]; exact h)

theorem n_mul {a b : Int} (hx : ev n e x = .int .i64 a) (hy : ev n e y = .int .i64 b) (hr : -9223372036854775808 ≤ a * b ∧ a * b ≤ 9223372036854775807) (h : ow P n l0 K l (upd e d (.int .i64 (a * b))) w) :
    ow P n l0 K (⟨some d, .binOp .mul TX x y TY, T, pos, af, none⟩ :: l) e w :=
  b_mul hx hy (by rw [IntWalk.i64_in _ hr]; exact h)

theorem u_not {p : Prop} [Decidable p] (hx : ev n e x = .bool (decide p)) (h : ow P n l0 K l (upd e d (.bool (decide (¬ p)))) w) :
    ow P n l0 K (⟨some d, .unOp .not TX x, T, pos, af, none⟩ :: l) e w := by
  refine o_run (v := .bool (decide (¬ p))) (w' := w) ?_ h
  simp [execOp, hx, Op.unary]
theorem u_notb {b : Bool} (hx : ev n e x = .bool b) (h : ow P n l0 K l (upd e d (.bool (!b))) w) :
    ow P n l0 K (⟨some d, .unOp .not TX x, T, pos, af, none⟩ :: l) e w := by
  refine o_run (v := .bool (!b)) (w' := w) ?_ h
  simp [execOp, hx, Op.unary]
theorem u_neg {k : IntKind} {a : Int} (hx : ev n e x = .int k a) (h : ow P n l0 K l (upd e d (.int k (k.wrap (0 - a)))) w) :
    ow P n l0 K (⟨some d, .unOp .neg TX x, T, pos, af, none⟩ :: l) e w := by
  refine o_run (v := .int k (k.wrap (0 - a))) (w' := w) ?_ h
  simp [execOp, hx, Op.unary, Op.intArith]
theorem u_xor {k : IntKind} {a : Int} (hx : ev n e x = .int k a) (h : ow P n l0 K l (upd e d (.int k (k.wrap (BitVec.ofInt k.bits (if k.signed then -1 else k.max) ^^^ BitVec.ofInt k.bits a).toNat))) w) :
    ow P n l0 K (⟨some d, .unOp .xor TX x, T, pos, af, none⟩ :: l) e w := by
  refine o_run (v := .int k (k.wrap (BitVec.ofInt k.bits (if k.signed then -1 else k.max) ^^^ BitVec.ofInt k.bits a).toNat)) (w' := w) ?_ h
  simp [execOp, hx, Op.unary, Op.intBits]
/-- a conversion between integer kinds -/
theorem c_int {k k' : IntKind} {a : Int} {S D : TypeId} (hs : (P.underlying S).isSome = true) (hd : P.underlying D = some (.int k)) (hx : ev n e x = .int k' a) (h : ow P n l0 K l (upd e d (.int k (k.wrap a))) w) :
    ow P n l0 K (⟨some d, .convert S D x, T, pos, af, none⟩ :: l) e w := by
  refine o_run (v := .int k (k.wrap a)) (w' := w) ?_ h
  obtain ⟨ds, hds⟩ := Option.isSome_iff_exists.1 hs
  simp [execOp, hx, convert, run_underlying hds, run_underlying hd, Conv.intToInt]
theorem c_in {k k' : IntKind} {a : Int} {S D : TypeId} (hs : (P.underlying S).isSome = true) (hd : P.underlying D = some (.int k)) (hx : ev n e x = .int k' a) (hr : k.min ≤ a ∧ a ≤ k.max) (h : ow P n l0 K l (upd e d (.int k a)) w) :
    ow P n l0 K (⟨some d, .convert S D x, T, pos, af, none⟩ :: l) e w :=
  c_int hs hd hx (by rw [wrap_in hr]; exact h)

theorem v8_and {a b : BitVec 8} (hx : ev n e x = .int .u8 (a.toNat : Int)) (hy : ev n e y = .int .u8 (b.toNat : Int)) (h : ow P n l0 K l (upd e d (.int .u8 ((a &&& b).toNat : Int))) w) :
    ow P n l0 K (⟨some d, .binOp .and TX x y TY, T, pos, af, none⟩ :: l) e w :=
  b_and hx hy (by rw [wrap_nat_u rfl]; simp only [IntKind.bits, BitVec.ofInt_natCast, BitVec.ofNat_toNat, BitVec.setWidth_eq]; exact h)

theorem v8_or {a b : BitVec 8} (hx : ev n e x = .int .u8 (a.toNat : Int)) (hy : ev n e y = .int .u8 (b.toNat : Int)) (h : ow P n l0 K l (upd e d (.int .u8 ((a ||| b).toNat : Int))) w) :
    ow P n l0 K (⟨some d, .binOp .or TX x y TY, T, pos, af, none⟩ :: l) e w :=
  b_or hx hy (by rw [wrap_nat_u rfl]; simp only [IntKind.bits, BitVec.ofInt_natCast, BitVec.ofNat_toNat, BitVec.setWidth_eq]; exact h)

theorem v8_xor {a b : BitVec 8} (hx : ev n e x = .int .u8 (a.toNat : Int)) (hy : ev n e y = .int .u8 (b.toNat : Int)) (h : ow P n l0 K l (upd e d (.int .u8 ((a ^^^ b).toNat : Int))) w) :
    ow P n l0 K (⟨some d, .binOp .xor TX x y TY, T, pos, af, none⟩ :: l) e w :=
  b_xor hx hy (by rw [wrap_nat_u rfl]; simp only [IntKind.bits, BitVec.ofInt_natCast, BitVec.ofNat_toNat, BitVec.setWidth_eq]; exact h)

theorem v8_add {a b : BitVec 8} (hx : ev n e x = .int .u8 (a.toNat : Int)) (hy : ev n e y = .int .u8 (b.toNat : Int)) (h : ow P n l0 K l (upd e d (.int .u8 ((a + b).toNat : Int))) w) :
    ow P n l0 K (⟨some d, .binOp .add TX x y TY, T, pos, af, none⟩ :: l) e w :=
  b_add hx hy (by
    rw [wrap_nat_u rfl]
    have hh : BitVec.ofInt 8 ((a.toNat : Int) + (b.toNat : Int)) = a + b := by
      rw [BitVec.ofInt_add, BitVec.ofInt_natCast, BitVec.ofInt_natCast, BitVec.ofNat_toNat, BitVec.ofNat_toNat, BitVec.setWidth_eq, BitVec.setWidth_eq]
    simpa only [IntKind.bits, hh] using h)

theorem v8_sub {a b : BitVec 8} (hx : ev n e x = .int .u8 (a.toNat : Int)) (hy : ev n e y = .int .u8 (b.toNat : Int)) (h : ow P n l0 K l (upd e d (.int .u8 ((a - b).toNat : Int))) w) :
    ow P n l0 K (⟨some d, .binOp .sub TX x y TY, T, pos, af, none⟩ :: l) e w :=
  b_sub hx hy (by
    rw [wrap_nat_u rfl]
    have hh : BitVec.ofInt 8 ((a.toNat : Int) - (b.toNat : Int)) = a - b := by
      rw [Int.sub_eq_add_neg, BitVec.ofInt_add, BitVec.ofInt_neg, BitVec.ofInt_natCast, BitVec.ofInt_natCast, BitVec.ofNat_toNat, BitVec.ofNat_toNat, BitVec.setWidth_eq, BitVec.setWidth_eq, BitVec.sub_eq_add_neg]
    simpa only [IntKind.bits, hh] using h)

theorem v8_mul {a b : BitVec 8} (hx : ev n e x = .int .u8 (a.toNat : Int)) (hy : ev n e y = .int .u8 (b.toNat : Int)) (h : ow P n l0 K l (upd e d (.int .u8 ((a * b).toNat : Int))) w) :
    ow P n l0 K (⟨some d, .binOp .mul TX x y TY, T, pos, af, none⟩ :: l) e w :=
  b_mul hx hy (by
    rw [wrap_nat_u rfl]
    have hh : BitVec.ofInt 8 ((a.toNat : Int) * (b.toNat : Int)) = a * b := by
      rw [BitVec.ofInt_mul, BitVec.ofInt_natCast, BitVec.ofInt_natCast, BitVec.ofNat_toNat, BitVec.ofNat_toNat, BitVec.setWidth_eq, BitVec.setWidth_eq]
    simpa only [IntKind.bits, hh] using h)

theorem v8_not {a : BitVec 8} (hx : ev n e x = .int .u8 (a.toNat : Int)) (h : ow P n l0 K l (upd e d (.int .u8 ((~~~ a).toNat : Int))) w) :
    ow P n l0 K (⟨some d, .unOp .xor TX x, T, pos, af, none⟩ :: l) e w :=
  u_xor hx (by
    rw [wrap_nat_u rfl]
    have hh : BitVec.ofInt 8 (if IntKind.u8.signed then -1 else IntKind.u8.max) ^^^ BitVec.ofInt 8 (a.toNat : Int) = ~~~ a := by
      rw [BitVec.ofInt_natCast, BitVec.ofNat_toNat, BitVec.setWidth_eq, show BitVec.ofInt 8 (if IntKind.u8.signed then -1 else IntKind.u8.max) = BitVec.allOnes 8 from by decide, BitVec.allOnes_xor]
    simp only [IntKind.bits, hh, BitVec.ofInt_natCast, BitVec.ofNat_toNat, BitVec.setWidth_eq]
    exact h)
theorem v8_neg {a : BitVec 8} (hx : ev n e x = .int .u8 (a.toNat : Int)) (h : ow P n l0 K l (upd e d (.int .u8 ((- a).toNat : Int))) w) :
    ow P n l0 K (⟨some d, .unOp .neg TX x, T, pos, af, none⟩ :: l) e w :=
  u_neg hx (by
    rw [wrap_nat_u rfl]
    have hh : BitVec.ofInt 8 (0 - (a.toNat : Int)) = - a := by
      rw [Int.zero_sub, BitVec.ofInt_neg, BitVec.ofInt_natCast, BitVec.ofNat_toNat, BitVec.setWidth_eq]
    simpa only [IntKind.bits, hh] using h)
/-- shifts by a count that is a natural number -/
theorem v8_shr {a : BitVec 8} {k' : IntKind} {b : Int} (hx : ev n e x = .int .u8 (a.toNat : Int)) (hy : ev n e y = .int k' b) (hb : 0 ≤ b) (h : ow P n l0 K l (upd e d (.int .u8 ((a >>> b.toNat).toNat : Int))) w) :
    ow P n l0 K (⟨some d, .binOp .shr TX x y TY, T, pos, af, none⟩ :: l) e w :=
  b_shr hx hy hb (by
    have hh : (a.toNat : Int).fdiv (2 ^ min b.toNat IntKind.u8.bits) = ((a >>> b.toNat).toNat : Int) := by
      rw [Int.fdiv_eq_ediv_of_nonneg _ (Int.le_of_lt (Int.pow_pos (by decide))), BitVec.toNat_ushiftRight, Nat.shiftRight_eq_div_pow, Int.natCast_ediv]
      simp only [IntKind.bits]
      by_cases hc : b.toNat ≤ 8
      · rw [Nat.min_eq_left hc]; simp
      · rw [Nat.min_eq_right (by omega), Int.ediv_eq_zero_of_lt (by omega) (by have := a.isLt; exact_mod_cast this), Int.ediv_eq_zero_of_lt (by omega)]
        have h1 := a.isLt
        have h2 : 2 ^ 8 ≤ 2 ^ b.toNat := Nat.pow_le_pow_right (by decide) (by omega)
        exact_mod_cast Nat.lt_of_lt_of_le h1 h2
    rw [hh]; exact h)
theorem v8_shl {a : BitVec 8} {k' : IntKind} {b : Int} (hx : ev n e x = .int .u8 (a.toNat : Int)) (hy : ev n e y = .int k' b) (hb : 0 ≤ b) (h : ow P n l0 K l (upd e d (.int .u8 ((a <<< b.toNat).toNat : Int))) w) :
    ow P n l0 K (⟨some d, .binOp .shl TX x y TY, T, pos, af, none⟩ :: l) e w :=
  b_shl hx hy hb (by
    have hh : IntKind.u8.wrap ((a.toNat : Int) * 2 ^ min b.toNat IntKind.u8.bits) = ((a <<< b.toNat).toNat : Int) := by
      rw [wrap_nat_u rfl, BitVec.toNat_shiftLeft, Nat.shiftLeft_eq]
      simp only [IntKind.bits]
      by_cases hc : b.toNat ≤ 8
      · rw [Nat.min_eq_left hc, BitVec.toNat_ofInt]
        norm_cast
      · rw [Nat.min_eq_right (by omega), BitVec.toNat_ofInt]
        have e1 : a.toNat * 2 ^ b.toNat % 2 ^ 8 = 0 := by
          rw [show b.toNat = (b.toNat - 8) + 8 by omega, Nat.pow_add, ← Nat.mul_assoc, Nat.mul_mod_left]
        rw [e1]
        have e2 : ((a.toNat : Int) * 2 ^ 8) % ((2 ^ 8 : Nat) : Int) = 0 := by
          rw [show ((2 ^ 8 : Nat) : Int) = 2 ^ 8 by norm_cast]; exact Int.mul_emod_left _ _
        rw [e2]; rfl
    rw [hh]; exact h)
theorem v8_eql {a b : BitVec 8} (hx : ev n e x = .int .u8 (a.toNat : Int)) (hy : ev n e y = .int .u8 (b.toNat : Int)) (h : ow P n l0 K l (upd e d (.bool (decide (a = b)))) w) :
    ow P n l0 K (⟨some d, .binOp .eql TX x y TY, T, pos, af, none⟩ :: l) e w :=
  b_eql hx hy (by rw [show decide ((a.toNat : Int) = (b.toNat : Int)) = decide (a = b) from by rw [decide_eq_decide, BitVec.toNat_eq]; omega]; exact h)
theorem v8_neq {a b : BitVec 8} (hx : ev n e x = .int .u8 (a.toNat : Int)) (hy : ev n e y = .int .u8 (b.toNat : Int)) (h : ow P n l0 K l (upd e d (.bool (decide (a ≠ b)))) w) :
    ow P n l0 K (⟨some d, .binOp .neq TX x y TY, T, pos, af, none⟩ :: l) e w :=
  b_neq hx hy (by rw [show decide ((a.toNat : Int) ≠ (b.toNat : Int)) = decide (a ≠ b) from by rw [decide_eq_decide, ne_eq, ne_eq, BitVec.toNat_eq]; omega]; exact h)
/-- a conversion from an integer -/
theorem cv8 {k' : IntKind} {a : Int} {S D : TypeId} (hs : (P.underlying S).isSome = true) (hd : P.underlying D = some (.int .u8)) (hx : ev n e x = .int k' a) (h : ow P n l0 K l (upd e d (.int .u8 ((BitVec.ofInt 8 a).toNat : Int))) w) :
    ow P n l0 K (⟨some d, .convert S D x, T, pos, af, none⟩ :: l) e w :=
  c_int hs hd hx (by rw [wrap_nat_u rfl]; exact h)

theorem cv8_8 {a : BitVec 8} {S D : TypeId} (hs : (P.underlying S).isSome = true) (hd : P.underlying D = some (.int .u8)) (hx : ev n e x = .int .u8 (a.toNat : Int)) (h : ow P n l0 K l (upd e d (.int .u8 ((a.setWidth 8).toNat : Int))) w) :
    ow P n l0 K (⟨some d, .convert S D x, T, pos, af, none⟩ :: l) e w :=
  cv8 hs hd hx (by rw [BitVec.ofInt_natCast, BitVec.ofNat_toNat]; exact h)

theorem cv16_8 {a : BitVec 16} {S D : TypeId} (hs : (P.underlying S).isSome = true) (hd : P.underlying D = some (.int .u8)) (hx : ev n e x = .int .u16 (a.toNat : Int)) (h : ow P n l0 K l (upd e d (.int .u8 ((a.setWidth 8).toNat : Int))) w) :
    ow P n l0 K (⟨some d, .convert S D x, T, pos, af, none⟩ :: l) e w :=
  cv8 hs hd hx (by rw [BitVec.ofInt_natCast, BitVec.ofNat_toNat]; exact h)

theorem cv32_8 {a : BitVec 32} {S D : TypeId} (hs : (P.underlying S).isSome = true) (hd : P.underlying D = some (.int .u8)) (hx : ev n e x = .int .u32 (a.toNat : Int)) (h : ow P n l0 K l (upd e d (.int .u8 ((a.setWidth 8).toNat : Int))) w) :
    ow P n l0 K (⟨some d, .convert S D x, T, pos, af, none⟩ :: l) e w :=
  cv8 hs hd hx (by rw [BitVec.ofInt_natCast, BitVec.ofNat_toNat]; exact h)

theorem cv64_8 {a : BitVec 64} {S D : TypeId} (hs : (P.underlying S).isSome = true) (hd : P.underlying D = some (.int .u8)) (hx : ev n e x = .int .u64 (a.toNat : Int)) (h : ow P n l0 K l (upd e d (.int .u8 ((a.setWidth 8).toNat : Int))) w) :
    ow P n l0 K (⟨some d, .convert S D x, T, pos, af, none⟩ :: l) e w :=
  cv8 hs hd hx (by rw [BitVec.ofInt_natCast, BitVec.ofNat_toNat]; exact h)

/-- to int -/
theorem cv8_i {a : BitVec 8} {S D : TypeId} (hs : (P.underlying S).isSome = true) (hd : P.underlying D = some (.int .i64)) (hx : ev n e x = .int .u8 (a.toNat : Int)) (h : ow P n l0 K l (upd e d (.int .i64 (a.toNat : Int))) w) :
    ow P n l0 K (⟨some d, .convert S D x, T, pos, af, none⟩ :: l) e w :=
  c_in hs hd hx (by have := a.isLt; simp [IntKind.min, IntKind.max, IntKind.signed, IntKind.bits]; omega) h

theorem v16_and {a b : BitVec 16} (hx : ev n e x = .int .u16 (a.toNat : Int)) (hy : ev n e y = .int .u16 (b.toNat : Int)) (h : ow P n l0 K l (upd e d (.int .u16 ((a &&& b).toNat : Int))) w) :
    ow P n l0 K (⟨some d, .binOp .and TX x y TY, T, pos, af, none⟩ :: l) e w :=
  b_and hx hy (by rw [wrap_nat_u rfl]; simp only [IntKind.bits, BitVec.ofInt_natCast, BitVec.ofNat_toNat, BitVec.setWidth_eq]; exact h)

theorem v16_or {a b : BitVec 16} (hx : ev n e x = .int .u16 (a.toNat : Int)) (hy : ev n e y = .int .u16 (b.toNat : Int)) (h : ow P n l0 K l (upd e d (.int .u16 ((a ||| b).toNat : Int))) w) :
    ow P n l0 K (⟨some d, .binOp .or TX x y TY, T, pos, af, none⟩ :: l) e w :=
  b_or hx hy (by rw [wrap_nat_u rfl]; simp only [IntKind.bits, BitVec.ofInt_natCast, BitVec.ofNat_toNat, BitVec.setWidth_eq]; exact h)

theorem v16_xor {a b : BitVec 16} (hx : ev n e x = .int .u16 (a.toNat : Int)) (hy : ev n e y = .int .u16 (b.toNat : Int)) (h : ow P n l0 K l (upd e d (.int .u16 ((a ^^^ b).toNat : Int))) w) :
    ow P n l0 K (⟨some d, .binOp .xor TX x y TY, T, pos, af, none⟩ :: l) e w :=
  b_xor hx hy (by rw [wrap_nat_u rfl]; simp only [IntKind.bits, BitVec.ofInt_natCast, BitVec.ofNat_toNat, BitVec.setWidth_eq]; exact h)

theorem v16_add {a b : BitVec 16} (hx : ev n e x = .int .u16 (a.toNat : Int)) (hy : ev n e y = .int .u16 (b.toNat : Int)) (h : ow P n l0 K l (upd e d (.int .u16 ((a + b).toNat : Int))) w) :
    ow P n l0 K (⟨some d, .binOp .add TX x y TY, T, pos, af, none⟩ :: l) e w :=
  b_add hx hy (by
    rw [wrap_nat_u rfl]
    have hh : BitVec.ofInt 16 ((a.toNat : Int) + (b.toNat : Int)) = a + b := by
      rw [BitVec.ofInt_add, BitVec.ofInt_natCast, BitVec.ofInt_natCast, BitVec.ofNat_toNat, BitVec.ofNat_toNat, BitVec.setWidth_eq, BitVec.setWidth_eq]
    simpa only [IntKind.bits, hh] using h)

theorem v16_sub {a b : BitVec 16} (hx : ev n e x = .int .u16 (a.toNat : Int)) (hy : ev n e y = .int .u16 (b.toNat : Int)) (h : ow P n l0 K l (upd e d (.int .u16 ((a - b).toNat : Int))) w) :
    ow P n l0 K (⟨some d, .binOp .sub TX x y TY, T, pos, af, none⟩ :: l) e w :=
  b_sub hx hy (by
    rw [wrap_nat_u rfl]
    have hh : BitVec.ofInt 16 ((a.toNat : Int) - (b.toNat : Int)) = a - b := by
      rw [Int.sub_eq_add_neg, BitVec.ofInt_add, BitVec.ofInt_neg, BitVec.ofInt_natCast, BitVec.ofInt_natCast, BitVec.ofNat_toNat, BitVec.ofNat_toNat, BitVec.setWidth_eq, BitVec.setWidth_eq, BitVec.sub_eq_add_neg]
    simpa only [IntKind.bits, hh] using h)

theorem v16_mul {a b : BitVec 16} (hx : ev n e x = .int .u16 (a.toNat : Int)) (hy : ev n e y = .int .u16 (b.toNat : Int)) (h : ow P n l0 K l (upd e d (.int .u16 ((a * b).toNat : Int))) w) :
    ow P n l0 K (⟨some d, .binOp .mul TX x y TY, T, pos, af, none⟩ :: l) e w :=
  b_mul hx hy (by
    rw [wrap_nat_u rfl]
    have hh : BitVec.ofInt 16 ((a.toNat : Int) * (b.toNat : Int)) = a * b := by
      rw [BitVec.ofInt_mul, BitVec.ofInt_natCast, BitVec.ofInt_natCast, BitVec.ofNat_toNat, BitVec.ofNat_toNat, BitVec.setWidth_eq, BitVec.setWidth_eq]
    simpa only [IntKind.bits, hh] using h)

theorem v16_not {a : BitVec 16} (hx : ev n e x = .int .u16 (a.toNat : Int)) (h : ow P n l0 K l (upd e d (.int .u16 ((~~~ a).toNat : Int))) w) :
    ow P n l0 K (⟨some d, .unOp .xor TX x, T, pos, af, none⟩ :: l) e w :=
  u_xor hx (by
    rw [wrap_nat_u rfl]
    have hh : BitVec.ofInt 16 (if IntKind.u16.signed then -1 else IntKind.u16.max) ^^^ BitVec.ofInt 16 (a.toNat : Int) = ~~~ a := by
      rw [BitVec.ofInt_natCast, BitVec.ofNat_toNat, BitVec.setWidth_eq, show BitVec.ofInt 16 (if IntKind.u16.signed then -1 else IntKind.u16.max) = BitVec.allOnes 16 from by decide, BitVec.allOnes_xor]
    simp only [IntKind.bits, hh, BitVec.ofInt_natCast, BitVec.ofNat_toNat, BitVec.setWidth_eq]
    exact h)
theorem v16_neg {a : BitVec 16} (hx : ev n e x = .int .u16 (a.toNat : Int)) (h : ow P n l0 K l (upd e d (.int .u16 ((- a).toNat : Int))) w) :
    ow P n l0 K (⟨some d, .unOp .neg TX x, T, pos, af, none⟩ :: l) e w :=
  u_neg hx (by
    rw [wrap_nat_u rfl]
    have hh : BitVec.ofInt 16 (0 - (a.toNat : Int)) = - a := by
      rw [Int.zero_sub, BitVec.ofInt_neg, BitVec.ofInt_natCast, BitVec.ofNat_toNat, BitVec.setWidth_eq]
    simpa only [IntKind.bits, hh] using h)
/-- shifts by a count that is a natural number -/
theorem v16_shr {a : BitVec 16} {k' : IntKind} {b : Int} (hx : ev n e x = .int .u16 (a.toNat : Int)) (hy : ev n e y = .int k' b) (hb : 0 ≤ b) (h : ow P n l0 K l (upd e d (.int .u16 ((a >>> b.toNat).toNat : Int))) w) :
    ow P n l0 K (⟨some d, .binOp .shr TX x y TY, T, pos, af, none⟩ :: l) e w :=
  b_shr hx hy hb (by
    have hh : (a.toNat : Int).fdiv (2 ^ min b.toNat IntKind.u16.bits) = ((a >>> b.toNat).toNat : Int) := by
      rw [Int.fdiv_eq_ediv_of_nonneg _ (Int.le_of_lt (Int.pow_pos (by decide))), BitVec.toNat_ushiftRight, Nat.shiftRight_eq_div_pow, Int.natCast_ediv]
      simp only [IntKind.bits]
      by_cases hc : b.toNat ≤ 16
      · rw [Nat.min_eq_left hc]; simp
      · rw [Nat.min_eq_right (by omega), Int.ediv_eq_zero_of_lt (by omega) (by have := a.isLt; exact_mod_cast this), Int.ediv_eq_zero_of_lt (by omega)]
        have h1 := a.isLt
        have h2 : 2 ^ 16 ≤ 2 ^ b.toNat := Nat.pow_le_pow_right (by decide) (by omega)
        exact_mod_cast Nat.lt_of_lt_of_le h1 h2
    rw [hh]; exact h)
theorem v16_shl {a : BitVec 16} {k' : IntKind} {b : Int} (hx : ev n e x = .int .u16 (a.toNat : Int)) (hy : ev n e y = .int k' b) (hb : 0 ≤ b) (h : ow P n l0 K l (upd e d (.int .u16 ((a <<< b.toNat).toNat : Int))) w) :
    ow P n l0 K (⟨some d, .binOp .shl TX x y TY, T, pos, af, none⟩ :: l) e w :=
  b_shl hx hy hb (by
    have hh : IntKind.u16.wrap ((a.toNat : Int) * 2 ^ min b.toNat IntKind.u16.bits) = ((a <<< b.toNat).toNat : Int) := by
      rw [wrap_nat_u rfl, BitVec.toNat_shiftLeft, Nat.shiftLeft_eq]
      simp only [IntKind.bits]
      by_cases hc : b.toNat ≤ 16
      · rw [Nat.min_eq_left hc, BitVec.toNat_ofInt]
        norm_cast
      · rw [Nat.min_eq_right (by omega), BitVec.toNat_ofInt]
        have e1 : a.toNat * 2 ^ b.toNat % 2 ^ 16 = 0 := by
          rw [show b.toNat = (b.toNat - 16) + 16 by omega, Nat.pow_add, ← Nat.mul_assoc, Nat.mul_mod_left]
        rw [e1]
        have e2 : ((a.toNat : Int) * 2 ^ 16) % ((2 ^ 16 : Nat) : Int) = 0 := by
          rw [show ((2 ^ 16 : Nat) : Int) = 2 ^ 16 by norm_cast]; exact Int.mul_emod_left _ _
        rw [e2]; rfl
    rw [hh]; exact h)
theorem v16_eql {a b : BitVec 16} (hx : ev n e x = .int .u16 (a.toNat : Int)) (hy : ev n e y = .int .u16 (b.toNat : Int)) (h : ow P n l0 K l (upd e d (.bool (decide (a = b)))) w) :
    ow P n l0 K (⟨some d, .binOp .eql TX x y TY, T, pos, af, none⟩ :: l) e w :=
  b_eql hx hy (by rw [show decide ((a.toNat : Int) = (b.toNat : Int)) = decide (a = b) from by rw [decide_eq_decide, BitVec.toNat_eq]; omega]; exact h)
theorem v16_neq {a b : BitVec 16} (hx : ev n e x = .int .u16 (a.toNat : Int)) (hy : ev n e y = .int .u16 (b.toNat : Int)) (h : ow P n l0 K l (upd e d (.bool (decide (a ≠ b)))) w) :
    ow P n l0 K (⟨some d, .binOp .neq TX x y TY, T, pos, af, none⟩ :: l) e w :=
  b_neq hx hy (by rw [show decide ((a.toNat : Int) ≠ (b.toNat : Int)) = decide (a ≠ b) from by rw [decide_eq_decide, ne_eq, ne_eq, BitVec.toNat_eq]; omega]; exact h)
/-- a conversion from an integer -/
theorem cv16 {k' : IntKind} {a : Int} {S D : TypeId} (hs : (P.underlying S).isSome = true) (hd : P.underlying D = some (.int .u16)) (hx : ev n e x = .int k' a) (h : ow P n l0 K l (upd e d (.int .u16 ((BitVec.ofInt 16 a).toNat : Int))) w) :
    ow P n l0 K (⟨some d, .convert S D x, T, pos, af, none⟩ :: l) e w :=
  c_int hs hd hx (by rw [wrap_nat_u rfl]; exact h)

theorem cv8_16 {a : BitVec 8} {S D : TypeId} (hs : (P.underlying S).isSome = true) (hd : P.underlying D = some (.int .u16)) (hx : ev n e x = .int .u8 (a.toNat : Int)) (h : ow P n l0 K l (upd e d (.int .u16 ((a.setWidth 16).toNat : Int))) w) :
    ow P n l0 K (⟨some d, .convert S D x, T, pos, af, none⟩ :: l) e w :=
  cv16 hs hd hx (by rw [BitVec.ofInt_natCast, BitVec.ofNat_toNat]; exact h)

theorem cv16_16 {a : BitVec 16} {S D : TypeId} (hs : (P.underlying S).isSome = true) (hd : P.underlying D = some (.int .u16)) (hx : ev n e x = .int .u16 (a.toNat : Int)) (h : ow P n l0 K l (upd e d (.int .u16 ((a.setWidth 16).toNat : Int))) w) :
    ow P n l0 K (⟨some d, .convert S D x, T, pos, af, none⟩ :: l) e w :=
  cv16 hs hd hx (by rw [BitVec.ofInt_natCast, BitVec.ofNat_toNat]; exact h)

theorem cv32_16 {a : BitVec 32} {S D : TypeId} (hs : (P.underlying S).isSome = true) (hd : P.underlying D = some (.int .u16)) (hx : ev n e x = .int .u32 (a.toNat : Int)) (h : ow P n l0 K l (upd e d (.int .u16 ((a.setWidth 16).toNat : Int))) w) :
    ow P n l0 K (⟨some d, .convert S D x, T, pos, af, none⟩ :: l) e w :=
  cv16 hs hd hx (by rw [BitVec.ofInt_natCast, BitVec.ofNat_toNat]; exact h)

theorem cv64_16 {a : BitVec 64} {S D : TypeId} (hs : (P.underlying S).isSome = true) (hd : P.underlying D = some (.int .u16)) (hx : ev n e x = .int .u64 (a.toNat : Int)) (h : ow P n l0 K l (upd e d (.int .u16 ((a.setWidth 16).toNat : Int))) w) :
    ow P n l0 K (⟨some d, .convert S D x, T, pos, af, none⟩ :: l) e w :=
  cv16 hs hd hx (by rw [BitVec.ofInt_natCast, BitVec.ofNat_toNat]; exact h)

/-- to int -/
theorem cv16_i {a : BitVec 16} {S D : TypeId} (hs : (P.underlying S).isSome = true) (hd : P.underlying D = some (.int .i64)) (hx : ev n e x = .int .u16 (a.toNat : Int)) (h : ow P n l0 K l (upd e d (.int .i64 (a.toNat : Int))) w) :
    ow P n l0 K (⟨some d, .convert S D x, T, pos, af, none⟩ :: l) e w :=
  c_in hs hd hx (by have := a.isLt; simp [IntKind.min, IntKind.max, IntKind.signed, IntKind.bits]; omega) h

theorem v32_and {a b : BitVec 32} (hx : ev n e x = .int .u32 (a.toNat : Int)) (hy : ev n e y = .int .u32 (b.toNat : Int)) (h : ow P n l0 K l (upd e d (.int .u32 ((a &&& b).toNat : Int))) w) :
    ow P n l0 K (⟨some d, .binOp .and TX x y TY, T, pos, af, none⟩ :: l) e w :=
  b_and hx hy (by rw [wrap_nat_u rfl]; simp only [IntKind.bits, BitVec.ofInt_natCast, BitVec.ofNat_toNat, BitVec.setWidth_eq]; exact h)

theorem v32_or {a b : BitVec 32} (hx : ev n e x = .int .u32 (a.toNat : Int)) (hy : ev n e y = .int .u32 (b.toNat : Int)) (h : ow P n l0 K l (upd e d (.int .u32 ((a ||| b).toNat : Int))) w) :
    ow P n l0 K (⟨some d, .binOp .or TX x y TY, T, pos, af, none⟩ :: l) e w :=
  b_or hx hy (by rw [wrap_nat_u rfl]; simp only [IntKind.bits, BitVec.ofInt_natCast, BitVec.ofNat_toNat, BitVec.setWidth_eq]; exact h)

theorem v32_xor {a b : BitVec 32} (hx : ev n e x = .int .u32 (a.toNat : Int)) (hy : ev n e y = .int .u32 (b.toNat : Int)) (h : ow P n l0 K l (upd e d (.int .u32 ((a ^^^ b).toNat : Int))) w) :
    ow P n l0 K (⟨some d, .binOp .xor TX x y TY, T, pos, af, none⟩ :: l) e w :=
  b_xor hx hy (by rw [wrap_nat_u rfl]; simp only [IntKind.bits, BitVec.ofInt_natCast, BitVec.ofNat_toNat, BitVec.setWidth_eq]; exact h)

theorem v32_add {a b : BitVec 32} (hx : ev n e x = .int .u32 (a.toNat : Int)) (hy : ev n e y = .int .u32 (b.toNat : Int)) (h : ow P n l0 K l (upd e d (.int .u32 ((a + b).toNat : Int))) w) :
    ow P n l0 K (⟨some d, .binOp .add TX x y TY, T, pos, af, none⟩ :: l) e w :=
  b_add hx hy (by
    rw [wrap_nat_u rfl]
    have hh : BitVec.ofInt 32 ((a.toNat : Int) + (b.toNat : Int)) = a + b := by
      rw [BitVec.ofInt_add, BitVec.ofInt_natCast, BitVec.ofInt_natCast, BitVec.ofNat_toNat, BitVec.ofNat_toNat, BitVec.setWidth_eq, BitVec.setWidth_eq]
    simpa only [IntKind.bits, hh] using h)

theorem v32_sub {a b : BitVec 32} (hx : ev n e x = .int .u32 (a.toNat : Int)) (hy : ev n e y = .int .u32 (b.toNat : Int)) (h : ow P n l0 K l (upd e d (.int .u32 ((a - b).toNat : Int))) w) :
    ow P n l0 K (⟨some d, .binOp .sub TX x y TY, T, pos, af, none⟩ :: l) e w :=
  b_sub hx hy (by
    rw [wrap_nat_u rfl]
    have hh : BitVec.ofInt 32 ((a.toNat : Int) - (b.toNat : Int)) = a - b := by
      rw [Int.sub_eq_add_neg, BitVec.ofInt_add, BitVec.ofInt_neg, BitVec.ofInt_natCast, BitVec.ofInt_natCast, BitVec.ofNat_toNat, BitVec.ofNat_toNat, BitVec.setWidth_eq, BitVec.setWidth_eq, BitVec.sub_eq_add_neg]
    simpa only [IntKind.bits, hh] using h)

theorem v32_mul {a b : BitVec 32} (hx : ev n e x = .int .u32 (a.toNat : Int)) (hy : ev n e y = .int .u32 (b.toNat : Int)) (h : ow P n l0 K l (upd e d (.int .u32 ((a * b).toNat : Int))) w) :
    ow P n l0 K (⟨some d, .binOp .mul TX x y TY, T, pos, af, none⟩ :: l) e w :=
  b_mul hx hy (by
    rw [wrap_nat_u rfl]
    have hh : BitVec.ofInt 32 ((a.toNat : Int) * (b.toNat : Int)) = a * b := by
      rw [BitVec.ofInt_mul, BitVec.ofInt_natCast, BitVec.ofInt_natCast, BitVec.ofNat_toNat, BitVec.ofNat_toNat, BitVec.setWidth_eq, BitVec.setWidth_eq]
    simpa only [IntKind.bits, hh] using h)

theorem v32_not {a : BitVec 32} (hx : ev n e x = .int .u32 (a.toNat : Int)) (h : ow P n l0 K l (upd e d (.int .u32 ((~~~ a).toNat : Int))) w) :
    ow P n l0 K (⟨some d, .unOp .xor TX x, T, pos, af, none⟩ :: l) e w :=
  u_xor hx (by
    rw [wrap_nat_u rfl]
    have hh : BitVec.ofInt 32 (if IntKind.u32.signed then -1 else IntKind.u32.max) ^^^ BitVec.ofInt 32 (a.toNat : Int) = ~~~ a := by
      rw [BitVec.ofInt_natCast, BitVec.ofNat_toNat, BitVec.setWidth_eq, show BitVec.ofInt 32 (if IntKind.u32.signed then -1 else IntKind.u32.max) = BitVec.allOnes 32 from by decide, BitVec.allOnes_xor]
    simp only [IntKind.bits, hh, BitVec.ofInt_natCast, BitVec.ofNat_toNat, BitVec.setWidth_eq]
    exact h)
theorem v32_neg {a : BitVec 32} (hx : ev n e x = .int .u32 (a.toNat : Int)) (h : ow P n l0 K l (upd e d (.int .u32 ((- a).toNat : Int))) w) :
    ow P n l0 K (⟨some d, .unOp .neg TX x, T, pos, af, none⟩ :: l) e w :=
  u_neg hx (by
    rw [wrap_nat_u rfl]
    have hh : BitVec.ofInt 32 (0 - (a.toNat : Int)) = - a := by
      rw [Int.zero_sub, BitVec.ofInt_neg, BitVec.ofInt_natCast, BitVec.ofNat_toNat, BitVec.setWidth_eq]
    simpa only [IntKind.bits, hh] using h)
/-- shifts by a count that is a natural number -/
theorem v32_shr {a : BitVec 32} {k' : IntKind} {b : Int} (hx : ev n e x = .int .u32 (a.toNat : Int)) (hy : ev n e y = .int k' b) (hb : 0 ≤ b) (h : ow P n l0 K l (upd e d (.int .u32 ((a >>> b.toNat).toNat : Int))) w) :
    ow P n l0 K (⟨some d, .binOp .shr TX x y TY, T, pos, af, none⟩ :: l) e w :=
  b_shr hx hy hb (by
    have hh : (a.toNat : Int).fdiv (2 ^ min b.toNat IntKind.u32.bits) = ((a >>> b.toNat).toNat : Int) := by
      rw [Int.fdiv_eq_ediv_of_nonneg _ (Int.le_of_lt (Int.pow_pos (by decide))), BitVec.toNat_ushiftRight, Nat.shiftRight_eq_div_pow, Int.natCast_ediv]
      simp only [IntKind.bits]
      by_cases hc : b.toNat ≤ 32
      · rw [Nat.min_eq_left hc]; simp
      · rw [Nat.min_eq_right (by omega), Int.ediv_eq_zero_of_lt (by omega) (by have := a.isLt; exact_mod_cast this), Int.ediv_eq_zero_of_lt (by omega)]
        have h1 := a.isLt
        have h2 : 2 ^ 32 ≤ 2 ^ b.toNat := Nat.pow_le_pow_right (by decide) (by omega)
        exact_mod_cast Nat.lt_of_lt_of_le h1 h2
    rw [hh]; exact h)
theorem v32_shl {a : BitVec 32} {k' : IntKind} {b : Int} (hx : ev n e x = .int .u32 (a.toNat : Int)) (hy : ev n e y = .int k' b) (hb : 0 ≤ b) (h : ow P n l0 K l (upd e d (.int .u32 ((a <<< b.toNat).toNat : Int))) w) :
    ow P n l0 K (⟨some d, .binOp .shl TX x y TY, T, pos, af, none⟩ :: l) e w :=
  b_shl hx hy hb (by
    have hh : IntKind.u32.wrap ((a.toNat : Int) * 2 ^ min b.toNat IntKind.u32.bits) = ((a <<< b.toNat).toNat : Int) := by
      rw [wrap_nat_u rfl, BitVec.toNat_shiftLeft, Nat.shiftLeft_eq]
      simp only [IntKind.bits]
      by_cases hc : b.toNat ≤ 32
      · rw [Nat.min_eq_left hc, BitVec.toNat_ofInt]
        norm_cast
      · rw [Nat.min_eq_right (by omega), BitVec.toNat_ofInt]
        have e1 : a.toNat * 2 ^ b.toNat % 2 ^ 32 = 0 := by
          rw [show b.toNat = (b.toNat - 32) + 32 by omega, Nat.pow_add, ← Nat.mul_assoc, Nat.mul_mod_left]
        rw [e1]
        have e2 : ((a.toNat : Int) * 2 ^ 32) % ((2 ^ 32 : Nat) : Int) = 0 := by
          rw [show ((2 ^ 32 : Nat) : Int) = 2 ^ 32 by norm_cast]; exact Int.mul_emod_left _ _
        rw [e2]; rfl
    rw [hh]; exact h)
theorem v32_eql {a b : BitVec 32} (hx : ev n e x = .int .u32 (a.toNat : Int)) (hy : ev n e y = .int .u32 (b.toNat : Int)) (h : ow P n l0 K l (upd e d (.bool (decide (a = b)))) w) :
    ow P n l0 K (⟨some d, .binOp .eql TX x y TY, T, pos, af, none⟩ :: l) e w :=
  b_eql hx hy (by rw [show decide ((a.toNat : Int) = (b.toNat : Int)) = decide (a = b) from by rw [decide_eq_decide, BitVec.toNat_eq]; omega]; exact h)
theorem v32_neq {a b : BitVec 32} (hx : ev n e x = .int .u32 (a.toNat : Int)) (hy : ev n e y = .int .u32 (b.toNat : Int)) (h : ow P n l0 K l (upd e d (.bool (decide (a ≠ b)))) w) :
    ow P n l0 K (⟨some d, .binOp .neq TX x y TY, T, pos, af, none⟩ :: l) e w :=
  b_neq hx hy (by rw [show decide ((a.toNat : Int) ≠ (b.toNat : Int)) = decide (a ≠ b) from by rw [decide_eq_decide, ne_eq, ne_eq, BitVec.toNat_eq]; omega]; exact h)
/-- a conversion from an integer -/
theorem cv32 {k' : IntKind} {a : Int} {S D : TypeId} (hs : (P.underlying S).isSome = true) (hd : P.underlying D = some (.int .u32)) (hx : ev n e x = .int k' a) (h : ow P n l0 K l (upd e d (.int .u32 ((BitVec.ofInt 32 a).toNat : Int))) w) :
    ow P n l0 K (⟨some d, .convert S D x, T, pos, af, none⟩ :: l) e w :=
  c_int hs hd hx (by rw [wrap_nat_u rfl]; exact h)

theorem cv8_32 {a : BitVec 8} {S D : TypeId} (hs : (P.underlying S).isSome = true) (hd : P.underlying D = some (.int .u32)) (hx : ev n e x = .int .u8 (a.toNat : Int)) (h : ow P n l0 K l (upd e d (.int .u32 ((a.setWidth 32).toNat : Int))) w) :
    ow P n l0 K (⟨some d, .convert S D x, T, pos, af, none⟩ :: l) e w :=
  cv32 hs hd hx (by rw [BitVec.ofInt_natCast, BitVec.ofNat_toNat]; exact h)

theorem cv16_32 {a : BitVec 16} {S D : TypeId} (hs : (P.underlying S).isSome = true) (hd : P.underlying D = some (.int .u32)) (hx : ev n e x = .int .u16 (a.toNat : Int)) (h : ow P n l0 K l (upd e d (.int .u32 ((a.setWidth 32).toNat : Int))) w) :
    ow P n l0 K (⟨some d, .convert S D x, T, pos, af, none⟩ :: l) e w :=
  cv32 hs hd hx (by rw [BitVec.ofInt_natCast, BitVec.ofNat_toNat]; exact h)

theorem cv32_32 {a : BitVec 32} {S D : TypeId} (hs : (P.underlying S).isSome = true) (hd : P.underlying D = some (.int .u32)) (hx : ev n e x = .int .u32 (a.toNat : Int)) (h : ow P n l0 K l (upd e d (.int .u32 ((a.setWidth 32).toNat : Int))) w) :
    ow P n l0 K (⟨some d, .convert S D x, T, pos, af, none⟩ :: l) e w :=
  cv32 hs hd hx (by rw [BitVec.ofInt_natCast, BitVec.ofNat_toNat]; exact h)

theorem cv64_32 {a : BitVec 64} {S D : TypeId} (hs : (P.underlying S).isSome = true) (hd : P.underlying D = some (.int .u32)) (hx : ev n e x = .int .u64 (a.toNat : Int)) (h : ow P n l0 K l (upd e d (.int .u32 ((a.setWidth 32).toNat : Int))) w) :
    ow P n l0 K (⟨some d, .convert S D x, T, pos, af, none⟩ :: l) e w :=
  cv32 hs hd hx (by rw [BitVec.ofInt_natCast, BitVec.ofNat_toNat]; exact h)

/-- to int -/
theorem cv32_i {a : BitVec 32} {S D : TypeId} (hs : (P.underlying S).isSome = true) (hd : P.underlying D = some (.int .i64)) (hx : ev n e x = .int .u32 (a.toNat : Int)) (h : ow P n l0 K l (upd e d (.int .i64 (a.toNat : Int))) w) :
    ow P n l0 K (⟨some d, .convert S D x, T, pos, af, none⟩ :: l) e w :=
  c_in hs hd hx (by have := a.isLt; simp [IntKind.min, IntKind.max, IntKind.signed, IntKind.bits]; omega) h

theorem v64_and {a b : BitVec 64} (hx : ev n e x = .int .u64 (a.toNat : Int)) (hy : ev n e y = .int .u64 (b.toNat : Int)) (h : ow P n l0 K l (upd e d (.int .u64 ((a &&& b).toNat : Int))) w) :
    ow P n l0 K (⟨some d, .binOp .and TX x y TY, T, pos, af, none⟩ :: l) e w :=
  b_and hx hy (by rw [wrap_nat_u rfl]; simp only [IntKind.bits, BitVec.ofInt_natCast, BitVec.ofNat_toNat, BitVec.setWidth_eq]; exact h)

theorem v64_or {a b : BitVec 64} (hx : ev n e x = .int .u64 (a.toNat : Int)) (hy : ev n e y = .int .u64 (b.toNat : Int)) (h : ow P n l0 K l (upd e d (.int .u64 ((a ||| b).toNat : Int))) w) :
    ow P n l0 K (⟨some d, .binOp .or TX x y TY, T, pos, af, none⟩ :: l) e w :=
  b_or hx hy (by rw [wrap_nat_u rfl]; simp only [IntKind.bits, BitVec.ofInt_natCast, BitVec.ofNat_toNat, BitVec.setWidth_eq]; exact h)

theorem v64_xor {a b : BitVec 64} (hx : ev n e x = .int .u64 (a.toNat : Int)) (hy : ev n e y = .int .u64 (b.toNat : Int)) (h : ow P n l0 K l (upd e d (.int .u64 ((a ^^^ b).toNat : Int))) w) :
    ow P n l0 K (⟨some d, .binOp .xor TX x y TY, T, pos, af, none⟩ :: l) e w :=
  b_xor hx hy (by rw [wrap_nat_u rfl]; simp only [IntKind.bits, BitVec.ofInt_natCast, BitVec.ofNat_toNat, BitVec.setWidth_eq]; exact h)

theorem v64_add {a b : BitVec 64} (hx : ev n e x = .int .u64 (a.toNat : Int)) (hy : ev n e y = .int .u64 (b.toNat : Int)) (h : ow P n l0 K l (upd e d (.int .u64 ((a + b).toNat : Int))) w) :
    ow P n l0 K (⟨some d, .binOp .add TX x y TY, T, pos, af, none⟩ :: l) e w :=
  b_add hx hy (by
    rw [wrap_nat_u rfl]
    have hh : BitVec.ofInt 64 ((a.toNat : Int) + (b.toNat : Int)) = a + b := by
      rw [BitVec.ofInt_add, BitVec.ofInt_natCast, BitVec.ofInt_natCast, BitVec.ofNat_toNat, BitVec.ofNat_toNat, BitVec.setWidth_eq, BitVec.setWidth_eq]
    simpa only [IntKind.bits, hh] using h)

theorem v64_sub {a b : BitVec 64} (hx : ev n e x = .int .u64 (a.toNat : Int)) (hy : ev n e y = .int .u64 (b.toNat : Int)) (h : ow P n l0 K l (upd e d (.int .u64 ((a - b).toNat : Int))) w) :
    ow P n l0 K (⟨some d, .binOp .sub TX x y TY, T, pos, af, none⟩ :: l) e w :=
  b_sub hx hy (by
    rw [wrap_nat_u rfl]
    have hh : BitVec.ofInt 64 ((a.toNat : Int) - (b.toNat : Int)) = a - b := by
      rw [Int.sub_eq_add_neg, BitVec.ofInt_add, BitVec.ofInt_neg, BitVec.ofInt_natCast, BitVec.ofInt_natCast, BitVec.ofNat_toNat, BitVec.ofNat_toNat, BitVec.setWidth_eq, BitVec.setWidth_eq, BitVec.sub_eq_add_neg]
    simpa only [IntKind.bits, hh] using h)

theorem v64_mul {a b : BitVec 64} (hx : ev n e x = .int .u64 (a.toNat : Int)) (hy : ev n e y = .int .u64 (b.toNat : Int)) (h : ow P n l0 K l (upd e d (.int .u64 ((a * b).toNat : Int))) w) :
    ow P n l0 K (⟨some d, .binOp .mul TX x y TY, T, pos, af, none⟩ :: l) e w :=
  b_mul hx hy (by
    rw [wrap_nat_u rfl]
    have hh : BitVec.ofInt 64 ((a.toNat : Int) * (b.toNat : Int)) = a * b := by
      rw [BitVec.ofInt_mul, BitVec.ofInt_natCast, BitVec.ofInt_natCast, BitVec.ofNat_toNat, BitVec.ofNat_toNat, BitVec.setWidth_eq, BitVec.setWidth_eq]
    simpa only [IntKind.bits, hh] using h)

theorem v64_not {a : BitVec 64} (hx : ev n e x = .int .u64 (a.toNat : Int)) (h : ow P n l0 K l (upd e d (.int .u64 ((~~~ a).toNat : Int))) w) :
    ow P n l0 K (⟨some d, .unOp .xor TX x, T, pos, af, none⟩ :: l) e w :=
  u_xor hx (by
    rw [wrap_nat_u rfl]
    have hh : BitVec.ofInt 64 (if IntKind.u64.signed then -1 else IntKind.u64.max) ^^^ BitVec.ofInt 64 (a.toNat : Int) = ~~~ a := by
      rw [BitVec.ofInt_natCast, BitVec.ofNat_toNat, BitVec.setWidth_eq, show BitVec.ofInt 64 (if IntKind.u64.signed then -1 else IntKind.u64.max) = BitVec.allOnes 64 from by decide, BitVec.allOnes_xor]
    simp only [IntKind.bits, hh, BitVec.ofInt_natCast, BitVec.ofNat_toNat, BitVec.setWidth_eq]
    exact h)
theorem v64_neg {a : BitVec 64} (hx : ev n e x = .int .u64 (a.toNat : Int)) (h : ow P n l0 K l (upd e d (.int .u64 ((- a).toNat : Int))) w) :
    ow P n l0 K (⟨some d, .unOp .neg TX x, T, pos, af, none⟩ :: l) e w :=
  u_neg hx (by
    rw [wrap_nat_u rfl]
    have hh : BitVec.ofInt 64 (0 - (a.toNat : Int)) = - a := by
      rw [Int.zero_sub, BitVec.ofInt_neg, BitVec.ofInt_natCast, BitVec.ofNat_toNat, BitVec.setWidth_eq]
    simpa only [IntKind.bits, hh] using h)
/-- shifts by a count that is a natural number -/
theorem v64_shr {a : BitVec 64} {k' : IntKind} {b : Int} (hx : ev n e x = .int .u64 (a.toNat : Int)) (hy : ev n e y = .int k' b) (hb : 0 ≤ b) (h : ow P n l0 K l (upd e d (.int .u64 ((a >>> b.toNat).toNat : Int))) w) :
    ow P n l0 K (⟨some d, .binOp .shr TX x y TY, T, pos, af, none⟩ :: l) e w :=
  b_shr hx hy hb (by
    have hh : (a.toNat : Int).fdiv (2 ^ min b.toNat IntKind.u64.bits) = ((a >>> b.toNat).toNat : Int) := by
      rw [Int.fdiv_eq_ediv_of_nonneg _ (Int.le_of_lt (Int.pow_pos (by decide))), BitVec.toNat_ushiftRight, Nat.shiftRight_eq_div_pow, Int.natCast_ediv]
      simp only [IntKind.bits]
      by_cases hc : b.toNat ≤ 64
      · rw [Nat.min_eq_left hc]; simp
      · rw [Nat.min_eq_right (by omega), Int.ediv_eq_zero_of_lt (by omega) (by have := a.isLt; exact_mod_cast this), Int.ediv_eq_zero_of_lt (by omega)]
        have h1 := a.isLt
        have h2 : 2 ^ 64 ≤ 2 ^ b.toNat := Nat.pow_le_pow_right (by decide) (by omega)
        exact_mod_cast Nat.lt_of_lt_of_le h1 h2
    rw [hh]; exact h)
theorem v64_shl {a : BitVec 64} {k' : IntKind} {b : Int} (hx : ev n e x = .int .u64 (a.toNat : Int)) (hy : ev n e y = .int k' b) (hb : 0 ≤ b) (h : ow P n l0 K l (upd e d (.int .u64 ((a <<< b.toNat).toNat : Int))) w) :
    ow P n l0 K (⟨some d, .binOp .shl TX x y TY, T, pos, af, none⟩ :: l) e w :=
  b_shl hx hy hb (by
    have hh : IntKind.u64.wrap ((a.toNat : Int) * 2 ^ min b.toNat IntKind.u64.bits) = ((a <<< b.toNat).toNat : Int) := by
      rw [wrap_nat_u rfl, BitVec.toNat_shiftLeft, Nat.shiftLeft_eq]
      simp only [IntKind.bits]
      by_cases hc : b.toNat ≤ 64
      · rw [Nat.min_eq_left hc, BitVec.toNat_ofInt]
        norm_cast
      · rw [Nat.min_eq_right (by omega), BitVec.toNat_ofInt]
        have e1 : a.toNat * 2 ^ b.toNat % 2 ^ 64 = 0 := by
          rw [show b.toNat = (b.toNat - 64) + 64 by omega, Nat.pow_add, ← Nat.mul_assoc, Nat.mul_mod_left]
        rw [e1]
        have e2 : ((a.toNat : Int) * 2 ^ 64) % ((2 ^ 64 : Nat) : Int) = 0 := by
          rw [show ((2 ^ 64 : Nat) : Int) = 2 ^ 64 by norm_cast]; exact Int.mul_emod_left _ _
        rw [e2]; rfl
    rw [hh]; exact h)
theorem v64_eql {a b : BitVec 64} (hx : ev n e x = .int .u64 (a.toNat : Int)) (hy : ev n e y = .int .u64 (b.toNat : Int)) (h : ow P n l0 K l (upd e d (.bool (decide (a = b)))) w) :
    ow P n l0 K (⟨some d, .binOp .eql TX x y TY, T, pos, af, none⟩ :: l) e w :=
  b_eql hx hy (by rw [show decide ((a.toNat : Int) = (b.toNat : Int)) = decide (a = b) from by rw [decide_eq_decide, BitVec.toNat_eq]; omega]; exact h)
theorem v64_neq {a b : BitVec 64} (hx : ev n e x = .int .u64 (a.toNat : Int)) (hy : ev n e y = .int .u64 (b.toNat : Int)) (h : ow P n l0 K l (upd e d (.bool (decide (a ≠ b)))) w) :
    ow P n l0 K (⟨some d, .binOp .neq TX x y TY, T, pos, af, none⟩ :: l) e w :=
  b_neq hx hy (by rw [show decide ((a.toNat : Int) ≠ (b.toNat : Int)) = decide (a ≠ b) from by rw [decide_eq_decide, ne_eq, ne_eq, BitVec.toNat_eq]; omega]; exact h)
/-- a conversion from an integer -/
theorem cv64 {k' : IntKind} {a : Int} {S D : TypeId} (hs : (P.underlying S).isSome = true) (hd : P.underlying D = some (.int .u64)) (hx : ev n e x = .int k' a) (h : ow P n l0 K l (upd e d (.int .u64 ((BitVec.ofInt 64 a).toNat : Int))) w) :
    ow P n l0 K (⟨some d, .convert S D x, T, pos, af, none⟩ :: l) e w :=
  c_int hs hd hx (by rw [wrap_nat_u rfl]; exact h)

theorem cv8_64 {a : BitVec 8} {S D : TypeId} (hs : (P.underlying S).isSome = true) (hd : P.underlying D = some (.int .u64)) (hx : ev n e x = .int .u8 (a.toNat : Int)) (h : ow P n l0 K l (upd e d (.int .u64 ((a.setWidth 64).toNat : Int))) w) :
    ow P n l0 K (⟨some d, .convert S D x, T, pos, af, none⟩ :: l) e w :=
  cv64 hs hd hx (by rw [BitVec.ofInt_natCast, BitVec.ofNat_toNat]; exact h)

theorem cv16_64 {a : BitVec 16} {S D : TypeId} (hs : (P.underlying S).isSome = true) (hd : P.underlying D = some (.int .u64)) (hx : ev n e x = .int .u16 (a.toNat : Int)) (h : ow P n l0 K l (upd e d (.int .u64 ((a.setWidth 64).toNat : Int))) w) :
    ow P n l0 K (⟨some d, .convert S D x, T, pos, af, none⟩ :: l) e w :=
  cv64 hs hd hx (by rw [BitVec.ofInt_natCast, BitVec.ofNat_toNat]; exact h)

theorem cv32_64 {a : BitVec 32} {S D : TypeId} (hs : (P.underlying S).isSome = true) (hd : P.underlying D = some (.int .u64)) (hx : ev n e x = .int .u32 (a.toNat : Int)) (h : ow P n l0 K l (upd e d (.int .u64 ((a.setWidth 64).toNat : Int))) w) :
    ow P n l0 K (⟨some d, .convert S D x, T, pos, af, none⟩ :: l) e w :=
  cv64 hs hd hx (by rw [BitVec.ofInt_natCast, BitVec.ofNat_toNat]; exact h)

theorem cv64_64 {a : BitVec 64} {S D : TypeId} (hs : (P.underlying S).isSome = true) (hd : P.underlying D = some (.int .u64)) (hx : ev n e x = .int .u64 (a.toNat : Int)) (h : ow P n l0 K l (upd e d (.int .u64 ((a.setWidth 64).toNat : Int))) w) :
    ow P n l0 K (⟨some d, .convert S D x, T, pos, af, none⟩ :: l) e w :=
  cv64 hs hd hx (by rw [BitVec.ofInt_natCast, BitVec.ofNat_toNat]; exact h)

/-- to int -/
theorem cv64_i {a : BitVec 64} {S D : TypeId} (hs : (P.underlying S).isSome = true) (hd : P.underlying D = some (.int .i64)) (hx : ev n e x = .int .u64 (a.toNat : Int)) (h : ow P n l0 K l (upd e d (.int .i64 a.toInt)) w) :
    ow P n l0 K (⟨some d, .convert S D x, T, pos, af, none⟩ :: l) e w :=
  c_int hs hd hx (by
    have hh : IntKind.i64.wrap (a.toNat : Int) = a.toInt := by
      have := a.isLt
      rw [BitVec.toInt_eq_toNat_cond]
      simp only [IntKind.wrap, IntKind.bits, IntKind.signed]
      simp
      omega
    rw [hh]; exact h)

theorem b_shln {k k' : IntKind} {a : Int} {c : Nat} (hx : ev n e x = .int k a) (hy : ev n e y = .int k' (c : Int)) (h : ow P n l0 K l (upd e d (.int k (k.wrap (a * 2 ^ min c k.bits)))) w) :
    ow P n l0 K (⟨some d, .binOp .shl TX x y TY, T, pos, af, none⟩ :: l) e w := b_shl hx hy (by omega) (by rw [Int.toNat_natCast]; exact h)
theorem b_shrn {k k' : IntKind} {a : Int} {c : Nat} (hx : ev n e x = .int k a) (hy : ev n e y = .int k' (c : Int)) (h : ow P n l0 K l (upd e d (.int k (a.fdiv (2 ^ min c k.bits)))) w) :
    ow P n l0 K (⟨some d, .binOp .shr TX x y TY, T, pos, af, none⟩ :: l) e w := b_shr hx hy (by omega) (by rw [Int.toNat_natCast]; exact h)
theorem c_i64 {k' : IntKind} {a : Int} {S D : TypeId} (hs : (P.underlying S).isSome = true) (hd : P.underlying D = some (.int .i64)) (hx : ev n e x = .int k' a) (hr : -9223372036854775808 ≤ a ∧ a ≤ 9223372036854775807) (h : ow P n l0 K l (upd e d (.int .i64 a)) w) :
    ow P n l0 K (⟨some d, .convert S D x, T, pos, af, none⟩ :: l) e w :=
  c_int hs hd hx (by rw [IntWalk.i64_in _ hr]; exact h)
theorem v8_shrn {a : BitVec 8} {k' : IntKind} {c : Nat} (hx : ev n e x = .int .u8 (a.toNat : Int)) (hy : ev n e y = .int k' (c : Int)) (h : ow P n l0 K l (upd e d (.int .u8 ((a >>> c).toNat : Int))) w) :
    ow P n l0 K (⟨some d, .binOp .shr TX x y TY, T, pos, af, none⟩ :: l) e w := v8_shr hx hy (by omega) (by rw [Int.toNat_natCast]; exact h)
theorem v8_shln {a : BitVec 8} {k' : IntKind} {c : Nat} (hx : ev n e x = .int .u8 (a.toNat : Int)) (hy : ev n e y = .int k' (c : Int)) (h : ow P n l0 K l (upd e d (.int .u8 ((a <<< c).toNat : Int))) w) :
    ow P n l0 K (⟨some d, .binOp .shl TX x y TY, T, pos, af, none⟩ :: l) e w := v8_shl hx hy (by omega) (by rw [Int.toNat_natCast]; exact h)
theorem v16_shrn {a : BitVec 16} {k' : IntKind} {c : Nat} (hx : ev n e x = .int .u16 (a.toNat : Int)) (hy : ev n e y = .int k' (c : Int)) (h : ow P n l0 K l (upd e d (.int .u16 ((a >>> c).toNat : Int))) w) :
    ow P n l0 K (⟨some d, .binOp .shr TX x y TY, T, pos, af, none⟩ :: l) e w := v16_shr hx hy (by omega) (by rw [Int.toNat_natCast]; exact h)
theorem v16_shln {a : BitVec 16} {k' : IntKind} {c : Nat} (hx : ev n e x = .int .u16 (a.toNat : Int)) (hy : ev n e y = .int k' (c : Int)) (h : ow P n l0 K l (upd e d (.int .u16 ((a <<< c).toNat : Int))) w) :
    ow P n l0 K (⟨some d, .binOp .shl TX x y TY, T, pos, af, none⟩ :: l) e w := v16_shl hx hy (by omega) (by rw [Int.toNat_natCast]; exact h)
theorem v32_shrn {a : BitVec 32} {k' : IntKind} {c : Nat} (hx : ev n e x = .int .u32 (a.toNat : Int)) (hy : ev n e y = .int k' (c : Int)) (h : ow P n l0 K l (upd e d (.int .u32 ((a >>> c).toNat : Int))) w) :
    ow P n l0 K (⟨some d, .binOp .shr TX x y TY, T, pos, af, none⟩ :: l) e w := v32_shr hx hy (by omega) (by rw [Int.toNat_natCast]; exact h)
theorem v32_shln {a : BitVec 32} {k' : IntKind} {c : Nat} (hx : ev n e x = .int .u32 (a.toNat : Int)) (hy : ev n e y = .int k' (c : Int)) (h : ow P n l0 K l (upd e d (.int .u32 ((a <<< c).toNat : Int))) w) :
    ow P n l0 K (⟨some d, .binOp .shl TX x y TY, T, pos, af, none⟩ :: l) e w := v32_shl hx hy (by omega) (by rw [Int.toNat_natCast]; exact h)
theorem v64_shrn {a : BitVec 64} {k' : IntKind} {c : Nat} (hx : ev n e x = .int .u64 (a.toNat : Int)) (hy : ev n e y = .int k' (c : Int)) (h : ow P n l0 K l (upd e d (.int .u64 ((a >>> c).toNat : Int))) w) :
    ow P n l0 K (⟨some d, .binOp .shr TX x y TY, T, pos, af, none⟩ :: l) e w := v64_shr hx hy (by omega) (by rw [Int.toNat_natCast]; exact h)
theorem v64_shln {a : BitVec 64} {k' : IntKind} {c : Nat} (hx : ev n e x = .int .u64 (a.toNat : Int)) (hy : ev n e y = .int k' (c : Int)) (h : ow P n l0 K l (upd e d (.int .u64 ((a <<< c).toNat : Int))) w) :
    ow P n l0 K (⟨some d, .binOp .shl TX x y TY, T, pos, af, none⟩ :: l) e w := v64_shl hx hy (by omega) (by rw [Int.toNat_natCast]; exact h)
theorem v8_rem {a b : BitVec 8} (hx : ev n e x = .int .u8 (a.toNat : Int)) (hy : ev n e y = .int .u8 (b.toNat : Int)) (hb : ¬ b = 0#8) (h : ow P n l0 K l (upd e d (.int .u8 ((a % b).toNat : Int))) w) :
    ow P n l0 K (⟨some d, .binOp .rem TX x y TY, T, pos, af, none⟩ :: l) e w :=
  b_rem hx hy (fun h0 => hb (BitVec.eq_of_toNat_eq (by simpa using h0))) (by
    rw [show (a.toNat : Int).tmod (b.toNat : Int) = ((a % b).toNat : Int) from by rw [BitVec.toNat_umod]; exact (Int.ofNat_tmod a.toNat b.toNat).symm]; exact h)
theorem v8_quo {a b : BitVec 8} (hx : ev n e x = .int .u8 (a.toNat : Int)) (hy : ev n e y = .int .u8 (b.toNat : Int)) (hb : ¬ b = 0#8) (h : ow P n l0 K l (upd e d (.int .u8 ((a / b).toNat : Int))) w) :
    ow P n l0 K (⟨some d, .binOp .quo TX x y TY, T, pos, af, none⟩ :: l) e w :=
  b_quo hx hy (fun h0 => hb (BitVec.eq_of_toNat_eq (by simpa using h0))) (by
    rw [show IntKind.u8.wrap ((a.toNat : Int).tdiv (b.toNat : Int)) = ((a / b).toNat : Int) from by
      rw [show (a.toNat : Int).tdiv (b.toNat : Int) = ((a / b).toNat : Int) from by rw [BitVec.toNat_udiv]; exact (Int.ofNat_tdiv a.toNat b.toNat).symm, wrap_nat_u rfl, BitVec.ofInt_natCast, BitVec.toNat_ofNat]
      exact congrArg Int.ofNat (Nat.mod_eq_of_lt (a / b).isLt)]
    exact h)
theorem v16_rem {a b : BitVec 16} (hx : ev n e x = .int .u16 (a.toNat : Int)) (hy : ev n e y = .int .u16 (b.toNat : Int)) (hb : ¬ b = 0#16) (h : ow P n l0 K l (upd e d (.int .u16 ((a % b).toNat : Int))) w) :
    ow P n l0 K (⟨some d, .binOp .rem TX x y TY, T, pos, af, none⟩ :: l) e w :=
  b_rem hx hy (fun h0 => hb (BitVec.eq_of_toNat_eq (by simpa using h0))) (by
    rw [show (a.toNat : Int).tmod (b.toNat : Int) = ((a % b).toNat : Int) from by rw [BitVec.toNat_umod]; exact (Int.ofNat_tmod a.toNat b.toNat).symm]; exact h)
theorem v16_quo {a b : BitVec 16} (hx : ev n e x = .int .u16 (a.toNat : Int)) (hy : ev n e y = .int .u16 (b.toNat : Int)) (hb : ¬ b = 0#16) (h : ow P n l0 K l (upd e d (.int .u16 ((a / b).toNat : Int))) w) :
    ow P n l0 K (⟨some d, .binOp .quo TX x y TY, T, pos, af, none⟩ :: l) e w :=
  b_quo hx hy (fun h0 => hb (BitVec.eq_of_toNat_eq (by simpa using h0))) (by
    rw [show IntKind.u16.wrap ((a.toNat : Int).tdiv (b.toNat : Int)) = ((a / b).toNat : Int) from by
      rw [show (a.toNat : Int).tdiv (b.toNat : Int) = ((a / b).toNat : Int) from by rw [BitVec.toNat_udiv]; exact (Int.ofNat_tdiv a.toNat b.toNat).symm, wrap_nat_u rfl, BitVec.ofInt_natCast, BitVec.toNat_ofNat]
      exact congrArg Int.ofNat (Nat.mod_eq_of_lt (a / b).isLt)]
    exact h)
theorem v32_rem {a b : BitVec 32} (hx : ev n e x = .int .u32 (a.toNat : Int)) (hy : ev n e y = .int .u32 (b.toNat : Int)) (hb : ¬ b = 0#32) (h : ow P n l0 K l (upd e d (.int .u32 ((a % b).toNat : Int))) w) :
    ow P n l0 K (⟨some d, .binOp .rem TX x y TY, T, pos, af, none⟩ :: l) e w :=
  b_rem hx hy (fun h0 => hb (BitVec.eq_of_toNat_eq (by simpa using h0))) (by
    rw [show (a.toNat : Int).tmod (b.toNat : Int) = ((a % b).toNat : Int) from by rw [BitVec.toNat_umod]; exact (Int.ofNat_tmod a.toNat b.toNat).symm]; exact h)
theorem v32_quo {a b : BitVec 32} (hx : ev n e x = .int .u32 (a.toNat : Int)) (hy : ev n e y = .int .u32 (b.toNat : Int)) (hb : ¬ b = 0#32) (h : ow P n l0 K l (upd e d (.int .u32 ((a / b).toNat : Int))) w) :
    ow P n l0 K (⟨some d, .binOp .quo TX x y TY, T, pos, af, none⟩ :: l) e w :=
  b_quo hx hy (fun h0 => hb (BitVec.eq_of_toNat_eq (by simpa using h0))) (by
    rw [show IntKind.u32.wrap ((a.toNat : Int).tdiv (b.toNat : Int)) = ((a / b).toNat : Int) from by
      rw [show (a.toNat : Int).tdiv (b.toNat : Int) = ((a / b).toNat : Int) from by rw [BitVec.toNat_udiv]; exact (Int.ofNat_tdiv a.toNat b.toNat).symm, wrap_nat_u rfl, BitVec.ofInt_natCast, BitVec.toNat_ofNat]
      exact congrArg Int.ofNat (Nat.mod_eq_of_lt (a / b).isLt)]
    exact h)
theorem v64_rem {a b : BitVec 64} (hx : ev n e x = .int .u64 (a.toNat : Int)) (hy : ev n e y = .int .u64 (b.toNat : Int)) (hb : ¬ b = 0#64) (h : ow P n l0 K l (upd e d (.int .u64 ((a % b).toNat : Int))) w) :
    ow P n l0 K (⟨some d, .binOp .rem TX x y TY, T, pos, af, none⟩ :: l) e w :=
  b_rem hx hy (fun h0 => hb (BitVec.eq_of_toNat_eq (by simpa using h0))) (by
    rw [show (a.toNat : Int).tmod (b.toNat : Int) = ((a % b).toNat : Int) from by rw [BitVec.toNat_umod]; exact (Int.ofNat_tmod a.toNat b.toNat).symm]; exact h)
theorem v64_quo {a b : BitVec 64} (hx : ev n e x = .int .u64 (a.toNat : Int)) (hy : ev n e y = .int .u64 (b.toNat : Int)) (hb : ¬ b = 0#64) (h : ow P n l0 K l (upd e d (.int .u64 ((a / b).toNat : Int))) w) :
    ow P n l0 K (⟨some d, .binOp .quo TX x y TY, T, pos, af, none⟩ :: l) e w :=
  b_quo hx hy (fun h0 => hb (BitVec.eq_of_toNat_eq (by simpa using h0))) (by
    rw [show IntKind.u64.wrap ((a.toNat : Int).tdiv (b.toNat : Int)) = ((a / b).toNat : Int) from by
      rw [show (a.toNat : Int).tdiv (b.toNat : Int) = ((a / b).toNat : Int) from by rw [BitVec.toNat_udiv]; exact (Int.ofNat_tdiv a.toNat b.toNat).symm, wrap_nat_u rfl, BitVec.ofInt_natCast, BitVec.toNat_ofNat]
      exact congrArg Int.ofNat (Nat.mod_eq_of_lt (a / b).isLt)]
    exact h)
end E
end Go.Proofs.Ytbfphjhahgpndaa
