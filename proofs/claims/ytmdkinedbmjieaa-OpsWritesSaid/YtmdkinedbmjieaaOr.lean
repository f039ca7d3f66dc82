/- Ops: rows of instructions that are joined, plain; the walk of OpsJoins. No condition beyond what each contract names. -/
import Derived.Test.YtmdkinedbmjieaaOq
namespace Go.Proofs.Ytmdkinedbmjieaa
open Go.RowKit E
set_option linter.unusedVariables false
set_option linter.unusedSimpArgs false
set_option maxRecDepth 100000
attribute [local irreducible] ow qw kw kq cw opW Ret
def shf (n : Nat) (x : Ins) : Ins := { x with p := x.p + n, jumps := x.jumps.map (· + (n : Int)) }
theorem numZ_left {a b : Bs} {q n : Nat} (h : q + n ≤ a.length) : numZ (a ++ b) q n = numZ a q n := by
  rw [numZ_in h, numZ_in (by rw [List.length_append]; omega), List.drop_append_of_le_length (by omega), List.take_append_of_le_length (by rw [List.length_drop]; omega)]
theorem numZ_right {a b : Bs} (q n : Nat) : numZ (a ++ b) (a.length + q) n = numZ b q n := by
  unfold numZ
  by_cases h : q + n ≤ b.length
  · rw [if_pos h, if_pos (by rw [List.length_append]; omega), List.drop_append]
    rw [List.drop_eq_nil_of_le (by omega), List.nil_append, show a.length + q - a.length = q by omega]
  · rw [if_neg h, if_neg (by rw [List.length_append]; omega)]
theorem far_left {a b : Bs} {q : Nat} (h : q + 4 ≤ a.length) : far (a ++ b) q = far a q := by unfold far; rw [numZ_left h]
theorem opAt_left {a b : Bs} {p : Nat} (h : p < a.length) : opAt (a ++ b) p = opAt a p := by
  unfold opAt; rw [List.getD_eq_getElem?_getD, List.getD_eq_getElem?_getD, List.getElem?_append_left h]
theorem opAt_right {a b : Bs} {p : Nat} : opAt (a ++ b) (a.length + p) = opAt b p := by
  unfold opAt; rw [List.getD_eq_getElem?_getD, List.getD_eq_getElem?_getD, List.getElem?_append_right (by omega), show a.length + p - a.length = p by omega]
theorem zer_left {a b : Bs} {p : Nat} : ∀ {n : Nat}, zer a p n = true → zer (a ++ b) p n = true
  | 0, _ => rfl
  | n + 1, h => by
    unfold zer at h ⊢
    simp only [Bool.and_eq_true, decide_eq_true_eq] at h ⊢
    exact ⟨zer_left h.1, by rw [List.getElem?_append_left (List.getElem?_eq_some_iff.1 h.2).1]; exact h.2⟩
theorem tabJumps_left {a b : Bs} {p q n : Nat} (h : q + 12 + 4 * n ≤ a.length) : tabJumps (a ++ b) p q n = tabJumps a p q n := by
  unfold tabJumps
  rw [far_left (by omega)]
  refine congrArg _ (List.map_congr_left fun i hi => ?_)
  rw [far_left (by have := List.mem_range.1 hi; omega)]
theorem lukKeys_left {a b : Bs} {q n : Nat} (h : q + 8 + 8 * n ≤ a.length) : lukKeys (a ++ b) q n = lukKeys a q n := by
  unfold lukKeys
  refine List.map_congr_left fun i hi => ?_
  rw [far_left (by have := List.mem_range.1 hi; omega)]
theorem lukJumps_left {a b : Bs} {p q n : Nat} (h : q + 8 + 8 * n ≤ a.length) : lukJumps (a ++ b) p q n = lukJumps a p q n := by
  unfold lukJumps
  rw [far_left (by omega)]
  refine congrArg _ (List.map_congr_left fun i hi => ?_)
  rw [far_left (by have := List.mem_range.1 hi; omega)]
theorem left2 {a b : Bs} {p w : Nat} (op : Nat) (hw : w = 2 ∨ w = 3) (hok : oneOk a p w) : oneOk (a ++ b) p w ∧ oneIs (a ++ b) p op w = oneIs a p op w := by
  have hL : (a ++ b).length = a.length + b.length := List.length_append
  rcases hw with rfl | rfl <;> simp only [oneOk, oneIs] at * <;> exact ⟨by omega, by rw [numZ_left (by omega)]⟩
theorem left4 {a b : Bs} {p w : Nat} (op : Nat) (hw : w = 4 ∨ w = 5 ∨ w = 7) (hok : oneOk a p w) : oneOk (a ++ b) p w ∧ oneIs (a ++ b) p op w = oneIs a p op w := by
  have hL : (a ++ b).length = a.length + b.length := List.length_append
  rcases hw with rfl | rfl | rfl <;> simp only [oneOk, oneIs] at * <;> exact ⟨by omega, by rw [numZ_left (by omega)]⟩
theorem left6 {a b : Bs} {p : Nat} (op : Nat) (hok : oneOk a p 6) : oneOk (a ++ b) p 6 ∧ oneIs (a ++ b) p op 6 = oneIs a p op 6 := by
  have hL : (a ++ b).length = a.length + b.length := List.length_append
  simp only [oneOk, oneIs] at *
  exact ⟨by omega, by rw [numZ_left (by omega), numZ_left (by omega)]⟩
theorem left8 {a b : Bs} {p : Nat} (op : Nat) (hok : oneOk a p 8) : oneOk (a ++ b) p 8 ∧ oneIs (a ++ b) p op 8 = oneIs a p op 8 := by
  have hL : (a ++ b).length = a.length + b.length := List.length_append
  simp only [oneOk, oneIs] at *
  obtain ⟨hz, h12, hle, hln⟩ := hok
  generalize up4 (p + 1) = q at *
  have hN : tabN (a ++ b) q = tabN a q := by unfold tabN; rw [far_left (by omega), far_left (by omega)]
  rw [hN, far_left (q := q + 4) (by omega), far_left (q := q + 8) (by omega), tabJumps_left hln]
  have hK : tabKeys (a ++ b) q (tabN a q) = tabKeys a q (tabN a q) := by unfold tabKeys; rw [far_left (by omega)]
  rw [hK]
  exact ⟨⟨zer_left hz, by omega, hle, by omega⟩, rfl⟩
theorem left9 {a b : Bs} {p : Nat} (op : Nat) (hok : oneOk a p 9) : oneOk (a ++ b) p 9 ∧ oneIs (a ++ b) p op 9 = oneIs a p op 9 := by
  have hL : (a ++ b).length = a.length + b.length := List.length_append
  simp only [oneOk, oneIs] at *
  obtain ⟨hz, h8, h0, hln, hr⟩ := hok
  generalize up4 (p + 1) = q at *
  have hN : lukN (a ++ b) q = lukN a q := by unfold lukN; rw [far_left (by omega)]
  rw [hN, far_left (q := q + 4) (by omega), lukJumps_left hln, lukKeys_left hln]
  refine ⟨⟨zer_left hz, by omega, h0, by omega, fun i h1 h2 => ?_⟩, rfl⟩
  rw [far_left (by omega), far_left (by omega)]
  exact hr i h1 h2
theorem left10 {a b : Bs} {p : Nat} (op : Nat) (hok : oneOk a p 10) : oneOk (a ++ b) p 10 ∧ oneIs (a ++ b) p op 10 = oneIs a p op 10 := by
  have hL : (a ++ b).length = a.length + b.length := List.length_append
  simp only [oneOk, oneIs] at *
  rw [numZ_left (q := p + 4) (by omega), numZ_left (q := p + 1) (by omega), numZ_left (q := p + 3) (by omega)]
  exact ⟨⟨by omega, hok.2⟩, rfl⟩
theorem left1 {a b : Bs} {p : Nat} (op : Nat) : oneOk (a ++ b) p 1 ∧ oneIs (a ++ b) p op 1 = oneIs a p op 1 := by
  simp only [oneOk, oneIs, and_self]
theorem left_all {a b : Bs} {p : Nat} (op w : Nat) (hw : w ≤ 10) (hok : oneOk a p w) : oneOk (a ++ b) p w ∧ oneIs (a ++ b) p op w = oneIs a p op w := by
  rcases Nat.lt_or_ge w 1 with h | h
  · obtain rfl : w = 0 := by omega
    simp only [oneOk] at hok
  · by_cases e1 : w = 1
    · subst e1; exact left1 op
    by_cases e2 : w = 2 ∨ w = 3
    · exact left2 op e2 hok
    by_cases e4 : w = 4 ∨ w = 5 ∨ w = 7
    · exact left4 op e4 hok
    by_cases e6 : w = 6
    · subst e6; exact left6 op hok
    by_cases e8 : w = 8
    · subst e8; exact left8 op hok
    by_cases e9 : w = 9
    · subst e9; exact left9 op hok
    obtain rfl : w = 10 := by omega
    exact left10 op hok
theorem rdOne_left {a b : Bs} {p : Nat} {x : Ins} (h : rdOne a p = some x) (hp : p < a.length) : rdOne (a ++ b) p = some x := by
  unfold rdOne at h ⊢
  rw [opAt_left hp]
  split at h
  next hok =>
    obtain rfl := Option.some.inj h
    have key := left_all (b := b) (opAt a p) _ (wayOf_le (opAt a p)) hok
    rw [if_pos key.1, key.2]
  next => cases h
theorem rdOne_op {cs : Bs} {p : Nat} {x : Ins} (h : rdOne cs p = some x) : x.op = (opAt cs p : Int) := by
  unfold rdOne at h
  split at h
  next hok =>
    obtain rfl := Option.some.inj h
    have hw := wayOf_le (opAt cs p)
    generalize wayOf (opAt cs p) = w at hok hw
    match w, hw with
    | 0, _ | 1, _ | 2, _ | 3, _ | 4, _ | 5, _ | 6, _ | 7, _ | 8, _ | 9, _ | 10, _ => rfl
    | n + 11, h => omega
  next => cases h
theorem way_sw : ∀ i : Fin 256, (wayOf i.val = 8 → i.val = 170) ∧ (wayOf i.val = 9 → i.val = 171) := by decide
theorem rdOne_right {a b : Bs} {p : Nat} {x : Ins} (h : rdOne b p = some x) (h1 : x.op ≠ 170) (h2 : x.op ≠ 171) : rdOne (a ++ b) (a.length + p) = some (shf a.length x) := by
  have hop := rdOne_op h
  have hsw := way_sw ⟨opAt b p, opAt_lt b p⟩
  simp only at hsw
  have h8 : wayOf (opAt b p) ≠ 8 := fun e => h1 (by rw [hop, hsw.1 e]; rfl)
  have h9 : wayOf (opAt b p) ≠ 9 := fun e => h2 (by rw [hop, hsw.2 e]; rfl)
  clear hop hsw
  unfold rdOne at h ⊢
  rw [opAt_right]
  split at h
  next hok =>
    obtain rfl := Option.some.inj h
    have hw := wayOf_le (opAt b p)
    have hL : (a ++ b).length = a.length + b.length := List.length_append
    generalize wayOf (opAt b p) = w at hok hw h8 h9
    have key : oneOk (a ++ b) (a.length + p) w ∧ oneIs (a ++ b) (a.length + p) (opAt b p) w = shf a.length (oneIs b p (opAt b p) w) := by
      match w, hw with
      | 0, _ => exact absurd hok id
      | 1, _ => exact ⟨trivial, by simp [oneIs, shf]; omega⟩
      | 2, _ | 3, _ | 4, _ | 5, _ =>
        simp only [oneOk] at hok
        refine ⟨by simp only [oneOk]; omega, ?_⟩
        simp only [oneIs, shf, Nat.add_assoc, numZ_right, List.map_nil, Ins.mk.injEq, and_true]
        omega
      | 6, _ =>
        simp only [oneOk] at hok
        refine ⟨by simp only [oneOk]; omega, ?_⟩
        simp only [oneIs, shf, Nat.add_assoc, numZ_right, List.map_nil, Ins.mk.injEq, and_true]
        omega
      | 7, _ =>
        simp only [oneOk] at hok
        refine ⟨by simp only [oneOk]; omega, ?_⟩
        simp only [oneIs, shf, Nat.add_assoc, numZ_right, List.map_cons, List.map_nil, Ins.mk.injEq, true_and, and_true, List.cons.injEq]
        exact ⟨by omega, by omega⟩
      | 8, _ => exact absurd rfl h8
      | 9, _ => exact absurd rfl h9
      | 10, _ =>
        simp only [oneOk] at hok
        refine ⟨?_, ?_⟩
        · simp only [oneOk]
          rw [show a.length + p + 4 = a.length + (p + 4) by omega, numZ_right]
          exact ⟨by omega, hok.2⟩
        · simp only [oneIs, shf, Nat.add_assoc, numZ_right, List.map_nil, Ins.mk.injEq, and_true]
          omega
      | n + 11, h => omega
    rw [if_pos key.1, key.2]
  next => cases h
theorem rdFrom_left {a b : Bs} : ∀ (xs : List Ins) (p : Nat), p ≤ a.length → rdFrom a p = some xs → rdFrom (a ++ b) p = (rdFrom (a ++ b) a.length).map (xs ++ ·)
  | [], p, hp, h => by
    obtain ⟨f, f0, fn, _⟩ := rdFrom_places [] p hp h
    rw [← f0, show f 0 = a.length from fn]
    simp
  | x :: xs, p, hp, h => by
    have hlt : p < a.length := by
      refine Decidable.byContradiction fun hh => ?_
      rw [rdFrom_end hh] at h; cases h
    cases h1 : rdOne a p with
    | none => rw [rdFrom_none hlt h1] at h; cases h
    | some y =>
      rw [rdFrom_some hlt h1] at h
      have hy := rdOne_len h1 hlt
      cases h2 : rdFrom a (p + y.len.toNat) with
      | none => rw [h2] at h; cases h
      | some ys =>
        rw [h2] at h
        simp only [Option.map_some, Option.some.injEq, List.cons.injEq] at h
        obtain ⟨rfl, rfl⟩ := h
        rw [rdFrom_some (by rw [List.length_append]; omega) (rdOne_left h1 hlt), rdFrom_left ys _ (by omega) h2, Option.map_map]
        rfl
theorem rdFrom_right {a b : Bs} : ∀ (ys : List Ins) (p : Nat), p ≤ b.length → rdFrom b p = some ys → (∀ y ∈ ys, y.op ≠ 170 ∧ y.op ≠ 171) → rdFrom (a ++ b) (a.length + p) = some (ys.map (shf a.length))
  | [], p, hp, h, _ => by
    obtain ⟨f, f0, fn, _⟩ := rdFrom_places [] p hp h
    rw [← f0, show f 0 = b.length from fn, rdFrom_end (by rw [List.length_append]; omega)]
    rfl
  | x :: xs, p, hp, h, hno => by
    have hlt : p < b.length := by
      refine Decidable.byContradiction fun hh => ?_
      rw [rdFrom_end hh] at h; cases h
    cases h1 : rdOne b p with
    | none => rw [rdFrom_none hlt h1] at h; cases h
    | some y =>
      rw [rdFrom_some hlt h1] at h
      have hy := rdOne_len h1 hlt
      cases h2 : rdFrom b (p + y.len.toNat) with
      | none => rw [h2] at h; cases h
      | some ys =>
        rw [h2] at h
        simp only [Option.map_some, Option.some.injEq, List.cons.injEq] at h
        obtain ⟨rfl, rfl⟩ := h
        have hny := hno y (by simp)
        rw [rdFrom_some (by rw [List.length_append]; omega) (rdOne_right h1 hny.1 hny.2)]
        show (rdFrom (a ++ b) (a.length + p + y.len.toNat)).map _ = _
        rw [Nat.add_assoc, rdFrom_right ys _ (by omega) h2 (fun z hz => hno z (by simp [hz]))]
        rfl
theorem rd_join {a b : Bs} (ha : rdE a = 0) (hb : rdE b = 0) (h4 : a.length + b.length ≤ 4096) (hno : ∀ y ∈ rdV b, y.op ≠ 170 ∧ y.op ≠ 171) : rdV (a ++ b) = rdV a ++ (rdV b).map (shf a.length) ∧ rdE (a ++ b) = 0 := by
  obtain ⟨_, _, hra, hna, hla⟩ := rd_in ha
  obtain ⟨_, _, hrb, hnb, hlb⟩ := rd_in hb
  refine rd_some (by rw [List.length_append]; exact h4) ?_ ?_ ?_
  · rw [rdFrom_left _ 0 (Nat.zero_le _) hra]
    have := rdFrom_right (a := a) _ 0 (Nat.zero_le _) hrb hno
    rw [Nat.add_zero] at this
    rw [this]
    rfl
  · intro h
    exact hna (List.append_eq_nil_iff.1 h).1
  · intro x hx t ht
    rw [List.map_append, List.mem_append]
    rcases List.mem_append.1 hx with hx | hx
    · exact .inl (hla x hx t ht)
    · obtain ⟨y, hy, rfl⟩ := List.mem_map.1 hx
      obtain ⟨t', ht', rfl⟩ := List.mem_map.1 ht
      obtain ⟨z, hz, hze⟩ := List.mem_map.1 (hlb y hy t' ht')
      exact .inr (List.mem_map.2 ⟨shf a.length z, List.mem_map.2 ⟨z, hz, rfl⟩, by show z.p + (a.length : Int) = _; rw [hze]⟩)
end Go.Proofs.Ytmdkinedbmjieaa
