/- Ops: what the reference's one finds, plain. No condition beyond what each lemma names. -/
import Derived.Test.YtmdkinedbmjieaaOu
namespace Go.Proofs.Ytmdkinedbmjieaa
open Go.RowKit E
set_option linter.unusedVariables false
set_option linter.unusedSimpArgs false
set_option maxRecDepth 100000
attribute [local irreducible] ow qw kw kq cw opW Ret
section
variable {cs : Bs} {p : Nat}
theorem rdw0 (h : wayOf (opAt cs p) = 0) : rdOne cs p = none := by rw [rdOne_of h, if_neg (by simp only [oneOk]; exact id)]
theorem rdw1 (h : wayOf (opAt cs p) = 1) : rdOne cs p = some ⟨p, 1, opAt cs p, 0, 0, [], []⟩ := by rw [rdOne_of h, if_pos (by simp only [oneOk])]; simp only [oneIs]
theorem rdw2 (h : wayOf (opAt cs p) = 2) : rdOne cs p = if p + 2 ≤ cs.length then some ⟨p, 2, opAt cs p, numZ cs (p + 1) 1, 0, [], []⟩ else none := by rw [rdOne_of h]; simp only [oneOk, oneIs]
theorem rdw3 (h : wayOf (opAt cs p) = 3) : rdOne cs p = if p + 2 ≤ cs.length then some ⟨p, 2, opAt cs p, sg 8 (numZ cs (p + 1) 1), 0, [], []⟩ else none := by rw [rdOne_of h]; simp only [oneOk, oneIs]
theorem rdw4 (h : wayOf (opAt cs p) = 4) : rdOne cs p = if p + 3 ≤ cs.length then some ⟨p, 3, opAt cs p, numZ cs (p + 1) 2, 0, [], []⟩ else none := by rw [rdOne_of h]; simp only [oneOk, oneIs]
theorem rdw5 (h : wayOf (opAt cs p) = 5) : rdOne cs p = if p + 3 ≤ cs.length then some ⟨p, 3, opAt cs p, sg 16 (numZ cs (p + 1) 2), 0, [], []⟩ else none := by rw [rdOne_of h]; simp only [oneOk, oneIs]
theorem rdw6 (h : wayOf (opAt cs p) = 6) : rdOne cs p = if p + 3 ≤ cs.length then some ⟨p, 3, opAt cs p, numZ cs (p + 1) 1, sg 8 (numZ cs (p + 2) 1), [], []⟩ else none := by rw [rdOne_of h]; simp only [oneOk, oneIs]
theorem rdw7 (h : wayOf (opAt cs p) = 7) : rdOne cs p = if p + 3 ≤ cs.length then some ⟨p, 3, opAt cs p, 0, 0, [], [(p : Int) + sg 16 (numZ cs (p + 1) 2)]⟩ else none := by rw [rdOne_of h]; simp only [oneOk, oneIs]
theorem rdw10 (h : wayOf (opAt cs p) = 10) : rdOne cs p = if p + 5 ≤ cs.length ∧ numZ cs (p + 4) 1 = 0 then some ⟨p, 5, opAt cs p, numZ cs (p + 1) 2, numZ cs (p + 3) 1, [], []⟩ else none := by rw [rdOne_of h]; simp only [oneOk, oneIs]
theorem rdw8 (h : wayOf (opAt cs p) = 8) {q : Nat} (hq : up4 (p + 1) = q) : rdOne cs p = if zer cs (p + 1) (q - (p + 1)) = true ∧ q + 12 ≤ cs.length ∧ far cs (q + 4) ≤ far cs (q + 8) ∧ q + 12 + 4 * tabN cs q ≤ cs.length then some ⟨p, ((q + 12 + 4 * tabN cs q - p : Nat) : Int), opAt cs p, 0, 0, tabKeys cs q (tabN cs q), tabJumps cs p q (tabN cs q)⟩ else none := by
  subst hq; rw [rdOne_of h]; simp only [oneOk, oneIs]
theorem rdw9 (h : wayOf (opAt cs p) = 9) {q : Nat} (hq : up4 (p + 1) = q) : rdOne cs p = if zer cs (p + 1) (q - (p + 1)) = true ∧ q + 8 ≤ cs.length ∧ 0 ≤ far cs (q + 4) ∧ q + 8 + 8 * lukN cs q ≤ cs.length ∧ rise cs (q + 8) (lukN cs q) then some ⟨p, ((q + 8 + 8 * lukN cs q - p : Nat) : Int), opAt cs p, 0, 0, lukKeys cs q (lukN cs q), lukJumps cs p q (lukN cs q)⟩ else none := by
  subst hq; rw [rdOne_of h]; simp only [oneOk, oneIs]
theorem sgn_b {n v : Nat} (hn : n ≤ 4) (h : v < 256 ^ n) : -4294967296 ≤ sgn n v ∧ sgn n v ≤ 4294967296 := by
  have : 256 ^ n ≤ 256 ^ 4 := Nat.pow_le_pow_right (by decide) hn
  unfold sgn
  generalize 256 ^ n = M at *
  split <;> omega
theorem fix8 (v : Nat) (h : v < 256) : (if sg 8 v < 0 then sg 8 v + 256 else sg 8 v) = (v : Int) := by
  unfold sg
  split <;> split <;> omega
theorem fix16 (v : Nat) (h : v < 65536) : (if sg 16 v < 0 then sg 16 v + 65536 else sg 16 v) = (v : Int) := by
  unfold sg
  split <;> split <;> omega
theorem low_ok {W : Nat} {av : Int} (hW : wayOf (opAt cs p) = W) (hw : W = 2 ∨ W = 3) (hav : (if p + 1 + 1 ≤ cs.length then sgn 1 (numZ cs (p + 1) 1) else 0) = av) :
    (decide (p + 1 + 1 ≤ cs.length) = true → rdOne cs p = some ⟨p, 2, opAt cs p, if W = 2 ∧ av < 0 then av + 256 else av, 0, [], []⟩) ∧ (decide (p + 1 + 1 ≤ cs.length) = false → rdOne cs p = none) := by
  have hn := numZ_lt cs (p + 1) 1
  simp only [Nat.reducePow] at hn
  refine ⟨fun h => ?_, fun h => ?_⟩
  · have h := of_decide_eq_true h
    rw [if_pos h, sgn1] at hav
    subst hav
    rcases hw with rfl | rfl
    · have := fix8 _ hn
      rw [rdw2 hW, if_pos h]
      simp only [true_and, this]
    · rw [rdw3 hW, if_pos h]
      simp
  · have h := of_decide_eq_false h
    rcases hw with rfl | rfl
    · rw [rdw2 hW, if_neg h]
    · rw [rdw3 hW, if_neg h]
theorem wide_ok {W : Nat} {av : Int} (hW : wayOf (opAt cs p) = W) (hw : W = 4 ∨ W = 5) (hav : (if p + 1 + 2 ≤ cs.length then sgn 2 (numZ cs (p + 1) 2) else 0) = av) :
    (decide (p + 1 + 2 ≤ cs.length) = true → rdOne cs p = some ⟨p, 3, opAt cs p, if W ≠ 5 ∧ av < 0 then av + 65536 else av, 0, [], []⟩) ∧ (decide (p + 1 + 2 ≤ cs.length) = false → rdOne cs p = none) := by
  have hn := numZ_lt cs (p + 1) 2
  simp only [Nat.reducePow] at hn
  refine ⟨fun h => ?_, fun h => ?_⟩
  · have h := of_decide_eq_true h
    rw [if_pos h, sgn2] at hav
    subst hav
    rcases hw with rfl | rfl
    · have := fix16 _ hn
      rw [rdw4 hW, if_pos h]
      simp only [show (4 ≠ 5) = True by simp, true_and, this]
    · rw [rdw5 hW, if_pos h]
      simp
  · have h := of_decide_eq_false h
    rcases hw with rfl | rfl
    · rw [rdw4 hW, if_neg h]
    · rw [rdw5 hW, if_neg h]
theorem iface_ok {av : Int} (hW : wayOf (opAt cs p) = 10) (hav : (if p + 1 + 2 ≤ cs.length then sgn 2 (numZ cs (p + 1) 2) else 0) = av) (h5 : p + 5 ≤ cs.length) (h0 : numZ cs (p + 4) 1 = 0) :
    rdOne cs p = some ⟨p, 5, opAt cs p, if 10 ≠ 5 ∧ av < 0 then av + 65536 else av, numZ cs (p + 3) 1, [], []⟩ := by
  have hn := numZ_lt cs (p + 1) 2
  simp only [Nat.reducePow] at hn
  rw [if_pos (by omega), sgn2] at hav
  subst hav
  have := fix16 _ hn
  rw [rdw10 hW, if_pos ⟨h5, h0⟩]
  simp only [show (10 ≠ 5) = True by simp, true_and, this]
theorem zer_no {n : Nat} : ∀ {m : Nat}, n < m → cs[p + n]? ≠ some 0#8 → zer cs p m = false
  | 0, h, _ => by omega
  | m + 1, h, hc => by
    unfold zer
    by_cases e : n = m
    · subst e; rw [decide_eq_false hc, Bool.and_false]
    · rw [zer_no (by omega) hc, Bool.false_and]
theorem sw_none {q : Nat} (hq : up4 (p + 1) = q) (hw : wayOf (opAt cs p) = 8 ∨ wayOf (opAt cs p) = 9) (h : ¬ (zer cs (p + 1) (q - (p + 1)) = true ∧ q + 8 ≤ cs.length)) : rdOne cs p = none := by
  rcases hw with hw | hw
  · rw [rdw8 hw hq, if_neg (fun hh => h ⟨hh.1, by have := hh.2.1; omega⟩)]
  · rw [rdw9 hw hq, if_neg (fun hh => h ⟨hh.1, hh.2.1⟩)]
end
def cells (x : Ins) (ak : Option Addr) (ck : Nat) (aj : Option Addr) (cj : Nat) : List Value := [iv x.p, iv x.len, iv x.op, iv x.a, iv x.b, .slice ak x.keys.length ck, .slice aj x.jumps.length cj]
theorem ldc {w : World} {b : Nat} {x : Ins} {ak : Option Addr} {ck : Nat} {aj : Option Addr} {cj : Nat} (hB : Blk w b (cells x ak ck aj cj).toArray 38) : ∀ j v, (cells x ak ck aj cj)[j]? = some v → w.cell? ⟨b, 0 + j, none⟩ = some v :=
  fun j v hv => by rw [Nat.zero_add]; exact hB.at (by simpa using hv)
theorem cells_one (x : Ins) (ak : Option Addr) (ck : Nat) (aj : Option Addr) (cj : Nat) : ∀ u ∈ cells x ak ck aj cj, u.oneCell' = true := by
  intro u hu
  simp only [cells, List.mem_cons, List.not_mem_nil, or_false] at hu
  rcases hu with rfl | rfl | rfl | rfl | rfl | rfl | rfl <;> rfl
theorem stc {w : World} {b : Nat} {xs : List Value} {z : Array Value} (h7 : xs.length = 7) (hz : z.size = 7) (hB : Blk w b (z.toList.take 0 ++ xs ++ z.toList.drop (0 + xs.length)).toArray 38) : ∀ j v, xs[j]? = some v → w.cell? ⟨b, j, none⟩ = some v := by
  have h0 : z.toList.drop (0 + xs.length) = [] := List.drop_eq_nil_of_le (by rw [Array.length_toList, hz, h7]; exact Nat.le_refl 7)
  rw [h0, List.take_zero, List.nil_append, List.append_nil] at hB
  intro j v hv
  exact hB.at (by simpa using hv)
/-- the instruction is made, or not -/
def Done (w0 : World) (cs : Bs) (p b4 b6 : Nat) (ok : Bool) (w : World) : Prop := ∃ x ak ck aj cj, Blk w b6 (cells x ak ck aj cj).toArray 38 ∧ StA b4 b6 w0 w ak ck x.keys aj cj x.jumps ∧ (ok = true → rdOne cs p = some x) ∧ (ok = false → rdOne cs p = none)
end Go.Proofs.Ytmdkinedbmjieaa
