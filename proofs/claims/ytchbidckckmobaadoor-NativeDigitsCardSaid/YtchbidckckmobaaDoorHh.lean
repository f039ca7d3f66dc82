/- Rules for strings; the reference's Digits. No condition beyond what each lemma names. -/
import Derived.Test.YtchbidckckmobaaDoorHg
import Derived.Lib.SlBytesRow
namespace Go.Proofs.YtchbidckckmobaaDoor
open Go.RowKit E
set_option linter.unusedVariables false
set_option linter.unusedSimpArgs false
set_option maxRecDepth 100000
attribute [local irreducible] ow qw kw kq cw opW Ret
namespace E
section
variable {P : Program} {n : Nat} {e : Env} {w : World} {l0 l : List Oper} {K : Env → World → Prop} {d : Nat} {T : TypeId} {pos : String} {af : Array Edge} {x y : Operand} {TX TY : TypeId}
theorem b_addstr {a b : ByteArray} (hx : ev n e x = .string a) (hy : ev n e y = .string b) (hl : a.size + b.size ≤ 9223372036854775807) (h : ow P n l0 K l (upd e d (.string (a ++ b))) w) :
    ow P n l0 K (⟨some d, .binOp .add TX x y TY, T, pos, af, none⟩ :: l) e w := by
  refine o_run (v := .string (a ++ b)) (w' := w) ?_ h
  have h' : ¬ (9223372036854775807 : Int) < a.size + b.size := by omega
  simp [execOp, hx, hy, binOp, Op.stringOp, eqGuard, h']
/-- string(b) of a []byte that is a whole block -/
theorem o_bstr {g E' : Nat} {s : ByteArray} {cs : Array Value} {S D : TypeId} {cap : Nat} (hs : P.underlying S = some (.slice E')) (he : P.underlying E' = some (.int .u8)) (hd : P.underlying D = some .string) (hx : ev n e x = .slice (some ⟨g, 0, none⟩) s.size cap) (hB : Blk w g cs E')
    (hc : ∀ i (h : i < s.size), cs[i]? = some (.int .u8 (s[i].toNat : Int))) (h : ow P n l0 K l (upd e d (.string s)) w) :
    ow P n l0 K (⟨some d, .convert S D x, T, pos, af, none⟩ :: l) e w := by
  refine o_run (v := .string s) (w' := w) ?_ h
  have hr := Lib.run_convert_whole (P := P) w S E' D hs he hd g 0 s (fun i hi => by
    rw [Nat.zero_add]
    exact hB.cell.trans (hc i hi)) cap
  simp [execOp, hx, hr]
end
end E
/-- the digits, one more ahead -/
theorem dig_step {u : Nat} (h : u ≠ 0) : Lib.decDigits u = (if u / 10 = 0 then [] else Lib.decDigits (u / 10)) ++ [UInt8.ofNat (48 + u % 10)] := by
  by_cases hu : u < 10
  · rw [digs_lt hu, if_pos (by omega), show u % 10 = u from by omega]; rfl
  · rw [digs_ge hu, if_neg (by omega)]
theorem dig_len (u : Nat) : (Lib.decDigits u).length ≤ u + 1 := by
  induction u using Nat.strongRecOn with
  | _ u ih =>
    by_cases h : u < 10
    · rw [digs_lt h]; simp
    · rw [digs_ge h]
      have := ih (u / 10) (by omega)
      simp; omega
theorem dig19 (u : Nat) (h : u ≤ 9223372036854775808) : (Lib.decDigits u).length ≤ 64 := by
  have : ∀ k u, u < 10 ^ (k + 1) → (Lib.decDigits u).length ≤ k + 1 := by
    intro k
    induction k with
    | zero => intro u hu; rw [digs_lt (by simpa using hu)]; simp
    | succ k ih =>
      intro u hu
      by_cases hlt : u < 10
      · rw [digs_lt hlt]; simp
      · rw [digs_ge hlt]
        have := ih (u / 10) (by rw [Nat.pow_succ] at hu; omega)
        simp; omega
  have := this 20 u (by omega)
  omega
theorem rdigits_ok (w : World) (n : Int) (h0 : -9223372036854775808 ≤ n) (h1 : n ≤ 9223372036854775807) :
    Ret Tryd.prog 44 [.int .i64 n] w (fun v w' => v = .string ⟨(Lib.itoa n).toArray⟩ ∧ Keep [] w w') := by
  refine fn_enter (n := 31) Tryd.func44 rfl rfl (Nat.le_of_ble_eq_true rfl) (fun e => ?_)
  refine k_seq ?_
  refine k_region ?_
  refine m_str rfl rfl ?_
  refine o_nil ?_
  refine k_seq ?_
  refine k_seq ?_
  refine k_region ?_
  refine m_int rfl rfl ?_
  refine b_eql rfl rfl ?_
  refine o_nil ?_
  refine k_cond rfl (fun h => ?_) (fun h => ?_)
  ·
    refine k_seq ?_
    refine k_region ?_
    refine m_str rfl rfl ?_
    refine o_nil ?_
    refine k_ret (ret_tmps (ts := [2]) (v := .string _) rfl rfl ?_)
    subst h
    exact ⟨fx8, Keep.refl _ _⟩
  refine k_skip ?_
  refine k_seq ?_
  refine k_region ?_
  refine m_str rfl rfl ?_
  refine o_nil ?_
  refine k_seq ?_
  refine k_region ?_
  refine m_int rfl rfl ?_
  refine b_lss rfl rfl ?_
  refine m_bool rfl rfl ?_
  refine o_nil ?_
  refine k_seq ?_
  refine k_block ?_
  refine k_loop (σ := Int × List UInt8) (fun s => [(0, .int .i64 s.1), (3, .string ⟨s.2.toArray⟩), (4, .bool (decide (n < 0)))]) (fun s w' => Keep [] w w' ∧ (-9223372036854775808 ≤ s.1 ∧ s.1 ≤ 9223372036854775807) ∧ Lib.decDigits n.natAbs = (if s.1 = 0 then [] else Lib.decDigits s.1.natAbs) ++ s.2) (fun s => s.1.natAbs) (n, []) ⟨rfl, rfl, rfl, trivial⟩ ⟨Keep.refl _ _, ⟨h0, h1⟩, by rw [if_neg h]; simp⟩ (fun s e w1 hJ => ?_)
  obtain ⟨m, s⟩ := s
  obtain ⟨hK1, ⟨hm0, hm1⟩, hd⟩ := hJ
  dsimp only at hm0 hm1 hd ⊢
  refine k_seq ?_
  refine k_seq ?_
  refine k_region ?_
  refine m_int rfl rfl ?_
  refine b_neq rfl rfl ?_
  refine o_nil ?_
  refine k_cond rfl (fun h => ?_) (fun h => ?_)
  rotate_left
  ·
    have hm := Decidable.of_not_not h
    subst hm
    rw [if_pos rfl, List.nil_append] at hd
    refine k_exit rfl ?_
    refine k_seq ?_
    refine k_seq ?_
    refine k_region ?_
    refine m_bool rfl rfl ?_
    refine o_nil ?_
    refine k_cond rfl (fun h => ?_) (fun h => ?_)
    ·
      refine k_seq ?_
      refine k_region ?_
      refine m_str rfl rfl ?_
      refine b_addstr (a := ⟨#[45]⟩) rfl rfl (by show 1 + s.toArray.size ≤ _; have := dig19 n.natAbs (by omega); rw [hd] at this; simp; omega) ?_
      refine m_str rfl rfl ?_
      refine o_nil ?_
      refine k_ret (ret_tmps (ts := [2]) (v := .string _) rfl rfl ?_)
      refine ⟨congrArg Value.string ?_, hK1⟩
      unfold Lib.itoa
      rw [if_pos h, hd]
      apply ByteArray.ext
      show (⟨#[45]⟩ ++ ⟨s.toArray⟩ : ByteArray).data = _
      simp [ByteArray.data_append]
    refine k_skip ?_
    refine k_seq ?_
    refine k_region ?_
    refine m_str rfl rfl ?_
    refine m_str rfl rfl ?_
    refine o_nil ?_
    refine k_ret (ret_tmps (ts := [2]) (v := .string _) rfl rfl ?_)
    refine ⟨congrArg Value.string ?_, hK1⟩
    unfold Lib.itoa
    rw [if_neg h, ← hd, show n.natAbs = n.toNat from by omega]
  refine k_skip ?_
  refine k_block ?_
  refine k_seq ?_
  refine k_region ?_
  refine m_int rfl rfl ?_
  refine b_rem rfl rfl (by decide) ?_
  have htm : (m.tmod 10).natAbs = m.natAbs % 10 := by rw [Int.natAbs_tmod]; rfl
  refine m_int rfl rfl ?_
  refine o_nil ?_
  refine k_seq ?_
  refine k_seq ?_
  refine k_region ?_
  refine m_int rfl rfl ?_
  refine b_lss rfl rfl ?_
  refine o_nil ?_
  refine k_cut (σ := Unit) (fun _ => [(0, .int .i64 m), (3, .string ⟨s.toArray⟩), (4, .bool (decide (n < 0))), (5, .int .i64 ((m.natAbs % 10 : Nat) : Int))]) (fun _ w' => w' = w1) ?_ (fun s' e w' hJ => ?_)
  ·
    refine k_cond rfl (fun h => ?_) (fun h => ?_)
    ·
      refine k_region ?_
      refine m_int rfl rfl ?_
      refine u_neg rfl ?_
      refine m_int rfl rfl ?_
      refine o_nil ?_
      refine k_goal ⟨(), ⟨rfl, rfl, rfl, congrArg (Value.int .i64) ?_, trivial⟩, rfl⟩
      first | (rw [wrap_in (by simp [IntKind.min, IntKind.max, IntKind.signed, IntKind.bits]; omega)]; omega) | omega
    refine k_skip ?_
    refine k_goal ⟨(), ⟨rfl, rfl, rfl, congrArg (Value.int .i64) ?_, trivial⟩, rfl⟩
    first | (rw [wrap_in (by simp [IntKind.min, IntKind.max, IntKind.signed, IntKind.bits]; omega)]; omega) | omega
  subst hJ
  refine k_seq ?_
  refine k_region ?_
  refine m_int rfl rfl ?_
  refine n_add rfl rfl (by omega) ?_
  refine cv8 rfl Tryd.underlying5 rfl ?_
  have hb8 : ((UInt8.ofNat (48 + m.natAbs % 10)).toNat : Int) = ((BitVec.ofInt 8 (48 + ((m.natAbs % 10 : Nat) : Int))).toNat : Int) := by simp [BitVec.toNat_ofInt]; omega
  refine o_bsl (E := 5) (cs := #[.int .u8 ((BitVec.ofInt 8 (48 + ((m.natAbs % 10 : Nat) : Int))).toNat : Int)]) rfl (fun _ => by kernel_rfl) (fun g w2 hB2 hK2 hb2 hZ2 => ?_)
  refine o_bstr (s := ⟨#[UInt8.ofNat (48 + m.natAbs % 10)]⟩) Tryd.underlying34 Tryd.underlying5 Tryd.underlying9 rfl hB2 (fun i hi => ?_) ?_
  · have hi0 : i = 0 := by change i < 1 at hi; omega
    subst hi0
    exact congrArg (fun z => some (Value.int .u8 z)) hb8.symm
  refine m_str rfl rfl ?_
  refine b_addstr rfl rfl (by show 1 + s.toArray.size ≤ _; have := dig19 n.natAbs (by omega); rw [hd] at this; simp at this; simp; omega) ?_
  refine m_str rfl rfl ?_
  refine o_nil ?_
  refine k_region ?_
  refine m_int rfl rfl ?_
  refine b_quo rfl rfl (by decide) ?_
  have hq : (m.tdiv 10).natAbs = m.natAbs / 10 := by rw [Int.natAbs_tdiv]; rfl
  rw [wrap_in (k := .i64) (by simp [IntKind.min, IntKind.max, IntKind.signed, IntKind.bits]; omega)]
  refine m_int rfl rfl ?_
  refine o_nil ?_
  refine k_blk ?_
  refine k_goal ⟨(m.tdiv 10, UInt8.ofNat (48 + m.natAbs % 10) :: s), ⟨rfl, congrArg Value.string ?_, rfl, trivial⟩, ⟨hK1.tr hK2, ⟨by omega, by omega⟩, ?_⟩, by dsimp only; omega⟩
  · apply ByteArray.ext
    simp [ByteArray.data_append]
  · rw [hd, if_neg (by omega), dig_step (by omega)]
    dsimp only
    rw [hq]
    by_cases hz : m.tdiv 10 = 0
    · rw [if_pos hz, if_pos (by omega)]; simp
    · rw [if_neg hz, if_neg (by omega)]; simp
end Go.Proofs.YtchbidckckmobaaDoor
