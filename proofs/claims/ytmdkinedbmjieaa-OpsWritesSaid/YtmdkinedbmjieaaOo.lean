/- Ops: what is read is written again, plain. No condition beyond what each lemma names. -/
import Derived.Test.YtmdkinedbmjieaaOn
import Derived.Test.YtmdkinedbmjieaaEr
namespace Go.Proofs.Ytmdkinedbmjieaa
open Go.RowKit E
set_option linter.unusedVariables false
set_option linter.unusedSimpArgs false
set_option maxRecDepth 100000
attribute [local irreducible] ow qw kw kq cw opW Ret
theorem dig (v : Int) (k : Nat) (hk : k ≤ 3) : (((BitVec.ofInt 64 v) >>> (8 * k)).setWidth 8).toNat = ((v / 256 ^ k) % 256).toNat := by
  rw [BitVec.toNat_setWidth, BitVec.toNat_ushiftRight, BitVec.toNat_ofInt, Nat.shiftRight_eq_div_pow]
  match k, hk with
  | 0, _ => simp; omega
  | 1, _ => simp; omega
  | 2, _ => simp; omega
  | 3, _ => simp; omega
theorem bigB1 (a : BitVec 8) (v : Int) (h : v % 256 = (bigN [a] : Int)) : bigB 1 v = [a] := by
  have ha := a.isLt
  have e : bigN [a] = a.toNat := by simp [bigN]
  rw [e] at h
  show [((BitVec.ofInt 64 v) >>> (8 * 0)).setWidth 8] = [a]
  refine congrArg (fun x => [x]) (BitVec.eq_of_toNat_eq ?_)
  rw [dig v 0 (by omega)]; omega
theorem bigB2 (a b : BitVec 8) (v : Int) (h : v % 65536 = (bigN [a, b] : Int)) : bigB 2 v = [a, b] := by
  have ha := a.isLt
  have hb := b.isLt
  have e : bigN [a, b] = a.toNat * 256 + b.toNat := by simp [bigN]
  rw [e] at h
  have e1 : ((BitVec.ofInt 64 v) >>> (8 * 1)).setWidth 8 = a := BitVec.eq_of_toNat_eq (by rw [dig v 1 (by omega)]; omega)
  have e0 : ((BitVec.ofInt 64 v) >>> (8 * 0)).setWidth 8 = b := BitVec.eq_of_toNat_eq (by rw [dig v 0 (by omega)]; omega)
  show [((BitVec.ofInt 64 v) >>> (8 * 1)).setWidth 8, ((BitVec.ofInt 64 v) >>> (8 * 0)).setWidth 8] = [a, b]
  rw [e1, e0]
theorem bigB4 (a b c d : BitVec 8) (v : Int) (h : v % 4294967296 = (bigN [a, b, c, d] : Int)) : bigB 4 v = [a, b, c, d] := by
  have ha := a.isLt
  have hb := b.isLt
  have hc := c.isLt
  have hd := d.isLt
  have e : bigN [a, b, c, d] = ((a.toNat * 256 + b.toNat) * 256 + c.toNat) * 256 + d.toNat := by simp [bigN]
  rw [e] at h
  have e3 : ((BitVec.ofInt 64 v) >>> (8 * 3)).setWidth 8 = a := BitVec.eq_of_toNat_eq (by rw [dig v 3 (by omega)]; omega)
  have e2 : ((BitVec.ofInt 64 v) >>> (8 * 2)).setWidth 8 = b := BitVec.eq_of_toNat_eq (by rw [dig v 2 (by omega)]; omega)
  have e1 : ((BitVec.ofInt 64 v) >>> (8 * 1)).setWidth 8 = c := BitVec.eq_of_toNat_eq (by rw [dig v 1 (by omega)]; omega)
  have e0 : ((BitVec.ofInt 64 v) >>> (8 * 0)).setWidth 8 = d := BitVec.eq_of_toNat_eq (by rw [dig v 0 (by omega)]; omega)
  show [((BitVec.ofInt 64 v) >>> (8 * 3)).setWidth 8, ((BitVec.ofInt 64 v) >>> (8 * 2)).setWidth 8, ((BitVec.ofInt 64 v) >>> (8 * 1)).setWidth 8, ((BitVec.ofInt 64 v) >>> (8 * 0)).setWidth 8] = [a, b, c, d]
  rw [e3, e2, e1, e0]
theorem bigB_of (l : Bs) (n : Nat) (v : Int) (hn : l.length = n) (h4 : n = 1 ∨ n = 2 ∨ n = 4) (h : v % 256 ^ n = (bigN l : Int)) : bigB n v = l := by
  match l, hn with
  | [], hn => simp at hn; omega
  | [a], hn => simp at hn; subst hn; exact bigB1 a v h
  | [a, b], hn => simp at hn; subst hn; exact bigB2 a b v h
  | [a, b, c], hn => simp at hn; omega
  | [a, b, c, d], hn => simp at hn; subst hn; exact bigB4 a b c d v h
  | a :: b :: c :: d :: e :: l, hn => simp at hn; omega
theorem take_num {cs : Bs} {q n : Nat} {v : Int} (hq : q + n ≤ cs.length) (h4 : n = 1 ∨ n = 2 ∨ n = 4) (h : v % 256 ^ n = (numZ cs q n : Int)) : cs.take q ++ bigB n v = cs.take (q + n) := by
  rw [List.take_add, bigB_of ((cs.drop q).take n) n v (by simp; omega) h4 (by rw [h, numZ_in hq])]
theorem sg8_mod (v : Nat) (h : v < 256) : sg 8 v % 256 = (v : Int) := by unfold sg; split <;> omega
theorem sg16_mod (v : Nat) (h : v < 65536) : sg 16 v % 65536 = (v : Int) := by unfold sg; split <;> omega
theorem sg32_mod (v : Nat) (h : v < 4294967296) : sg 32 v % 4294967296 = (v : Int) := by unfold sg; split <;> omega
theorem take_far {cs : Bs} {q : Nat} {v : Int} (hq : q + 4 ≤ cs.length) (h : v = far cs q) : cs.take q ++ bigB 4 v = cs.take (q + 4) :=
  take_num hq (by omega) (by rw [h]; exact sg32_mod _ (numZ_lt cs q 4))
theorem take_op {cs : Bs} {p : Nat} (hp : p < cs.length) : cs.take p ++ bigB 1 (opAt cs p : Int) = cs.take (p + 1) := by
  refine take_num (by omega) (by omega) ?_
  have : opAt cs p = numZ cs p 1 := by unfold opAt; rw [numZ_one hp, List.getD_eq_getElem?_getD, List.getElem?_eq_getElem hp]; rfl
  rw [this]
  have := numZ_lt cs p 1
  omega
theorem zer_take {cs : Bs} {p : Nat} : ∀ {n : Nat}, zer cs p n = true → cs.take p ++ List.replicate n 0#8 = cs.take (p + n) ∧ (0 < n → p + n ≤ cs.length)
  | 0, _ => by simp
  | n + 1, h => by
    unfold zer at h
    simp only [Bool.and_eq_true, decide_eq_true_eq] at h
    obtain ⟨h1, h2⟩ := h
    have h3 := (zer_take h1).1
    have h4 := (List.getElem?_eq_some_iff.1 h2)
    refine ⟨?_, fun _ => by have := h4.1; omega⟩
    rw [List.replicate_succ', ← List.append_assoc, h3, ← Nat.add_assoc, List.take_succ_eq_append_getElem h4.1, h4.2]
theorem pad_take {cs : Bs} {p : Nat} (hp : p ≤ cs.length) (h : zer cs p (up4 p - p) = true) : pad4 (cs.take p) = cs.take (up4 p) := by
  have := up4_ge p
  unfold pad4
  rw [List.length_take, Nat.min_eq_left hp, (zer_take h).1, show p + (up4 p - p) = up4 p by omega]
theorem tabKeys_at (cs : Bs) (q n i : Nat) (h : i < n) : (tabKeys cs q n).getD i 0 = far cs (q + 4) + (i : Int) := by
  simp [tabKeys, h]
theorem tabJumps_zero (cs : Bs) (p q n : Nat) : (tabJumps cs p q n).getD 0 0 = (p : Int) + far cs q := rfl
theorem tabJumps_at (cs : Bs) (p q n i : Nat) (h : i < n) : (tabJumps cs p q n).getD (i + 1) 0 = (p : Int) + far cs (q + 12 + 4 * i) := by
  simp [tabJumps, h]
theorem lukKeys_at (cs : Bs) (q n i : Nat) (h : i < n) : (lukKeys cs q n).getD i 0 = far cs (q + 8 + 8 * i) := by
  simp [lukKeys, h]
theorem lukJumps_at (cs : Bs) (p q n i : Nat) (h : i < n) : (lukJumps cs p q n).getD (i + 1) 0 = (p : Int) + far cs (q + 8 + 8 * i + 4) := by
  simp [lukJumps, h]
theorem ents_tab {cs : Bs} {x : Ins} {p q n : Nat} (hp : x.p = p) (hj : x.jumps = tabJumps cs p q n) (hl : q + 12 + 4 * n ≤ cs.length) : ∀ i, i ≤ n → cs.take (q + 12) ++ ents x 8 i = cs.take (q + 12 + 4 * i)
  | 0, _ => by simp [ents]
  | i + 1, hi => by
    unfold ents
    rw [if_neg (by decide), List.nil_append, ← List.append_assoc, ents_tab hp hj hl i (by omega), hj, tabJumps_at _ _ _ _ _ (by omega), hp]
    rw [take_far (by omega) (by omega)]
    rw [show q + 12 + 4 * i + 4 = q + 12 + 4 * (i + 1) by omega]
theorem ents_luk {cs : Bs} {x : Ins} {p q n : Nat} (hp : x.p = p) (hk : x.keys = lukKeys cs q n) (hj : x.jumps = lukJumps cs p q n) (hl : q + 8 + 8 * n ≤ cs.length) : ∀ i, i ≤ n → cs.take (q + 8) ++ ents x 9 i = cs.take (q + 8 + 8 * i)
  | 0, _ => by simp [ents]
  | i + 1, hi => by
    unfold ents
    rw [if_pos rfl, ← List.append_assoc, ← List.append_assoc, ents_luk hp hk hj hl i (by omega), hj, hk, lukJumps_at _ _ _ _ _ (by omega), lukKeys_at _ _ _ _ (by omega), hp]
    rw [take_far (by omega) rfl, take_far (by omega) (by omega)]
    rw [show q + 8 + 8 * i + 4 + 4 = q + 8 + 8 * (i + 1) by omega]
theorem wrOne_rd {cs : Bs} {p : Nat} {x : Ins} (h : rdOne cs p = some x) (hp : p < cs.length) (h4 : cs.length ≤ 4096) :
    x.op = (opAt cs p : Int) ∧ wrOne (cs.take p) x (wayOf (opAt cs p)) = some (cs.take (p + x.len.toNat)) := by
  unfold rdOne at h
  split at h
  next hok =>
    obtain rfl := Option.some.inj h
    have hu := up4_ge (p + 1)
    have hw := wayOf_le (opAt cs p)
    have hto := take_op hp
    have n1 := numZ_lt cs (p + 1) 1
    have n2 := numZ_lt cs (p + 1) 2
    have n3 := numZ_lt cs (p + 2) 1
    have n4 := numZ_lt cs (p + 3) 1
    simp only [Nat.reducePow] at n1 n2 n3 n4
    generalize wayOf (opAt cs p) = w at hok hw
    match w, hw with
    | 0, _ => exact absurd hok id
    | 1, _ => exact ⟨rfl, congrArg some hto⟩
    | 2, _ =>
      refine ⟨rfl, congrArg some ?_⟩
      show cs.take p ++ bigB 1 (opAt cs p : Int) ++ bigB 1 _ = cs.take (p + 2)
      rw [hto]
      exact take_num (by simpa only [oneOk] using hok) (by omega) (by simp only [oneIs]; omega)
    | 3, _ =>
      refine ⟨rfl, congrArg some ?_⟩
      show cs.take p ++ bigB 1 (opAt cs p : Int) ++ bigB 1 _ = cs.take (p + 2)
      rw [hto]
      exact take_num (by simpa only [oneOk] using hok) (by omega) (sg8_mod _ n1)
    | 4, _ =>
      refine ⟨rfl, congrArg some ?_⟩
      show cs.take p ++ bigB 1 (opAt cs p : Int) ++ bigB 2 _ = cs.take (p + 3)
      rw [hto]
      exact take_num (by simpa only [oneOk] using hok) (by omega) (by simp only [oneIs]; omega)
    | 5, _ =>
      refine ⟨rfl, congrArg some ?_⟩
      show cs.take p ++ bigB 1 (opAt cs p : Int) ++ bigB 2 _ = cs.take (p + 3)
      rw [hto]
      exact take_num (by simpa only [oneOk] using hok) (by omega) (sg16_mod _ n2)
    | 6, _ =>
      have hok' : p + 3 ≤ cs.length := hok
      refine ⟨rfl, congrArg some ?_⟩
      show cs.take p ++ bigB 1 (opAt cs p : Int) ++ bigB 1 (numZ cs (p + 1) 1 : Int) ++ bigB 1 (sg 8 (numZ cs (p + 2) 1)) = cs.take (p + 3)
      rw [hto, take_num (q := p + 1) (by omega) (by omega) (by omega)]
      exact take_num (by omega) (by omega) (sg8_mod _ n3)
    | 7, _ =>
      have hok' : p + 3 ≤ cs.length := hok
      refine ⟨rfl, ?_⟩
      show (if [(p : Int) + sg 16 (numZ cs (p + 1) 2)].length = 1 then some (cs.take p ++ bigB 1 (opAt cs p : Int) ++ bigB 2 ((p : Int) + sg 16 (numZ cs (p + 1) 2) - (p : Int))) else none) = some (cs.take (p + 3))
      refine (if_pos rfl).trans ?_
      rw [hto, show (p : Int) + sg 16 (numZ cs (p + 1) 2) - (p : Int) = sg 16 (numZ cs (p + 1) 2) by omega]
      exact congrArg some (take_num (by omega) (by omega) (sg16_mod _ n2))
    | 8, _ =>
      simp only [oneOk] at hok
      obtain ⟨hz, h12, hle, hln⟩ := hok
      refine ⟨rfl, ?_⟩
      generalize hq : up4 (p + 1) = q at *
      have hn : 1 ≤ tabN cs q := by unfold tabN; omega
      have hfar : far cs (q + 4) + ((tabN cs q - 1 : Nat) : Int) = far cs (q + 8) := by unfold tabN; omega
      simp only [oneIs, hq]
      unfold wrOne
      simp only [tabKeys_len, tabJumps_len]
      rw [if_pos ⟨trivial, fun h => by have := congrArg List.length h; rw [tabKeys_len] at this; simp at this; omega, by omega⟩]
      refine congrArg some ?_
      unfold swHead
      simp only [if_true, tabKeys_len, tabJumps_zero]
      rw [hto, pad_take (by omega) (by rw [hq]; exact hz), hq, tabKeys_at _ _ _ _ (by omega), tabKeys_at _ _ _ _ (by omega), hfar, ← List.append_assoc]
      rw [take_far (by omega) (by omega), take_far (by omega) (by omega), take_far (by omega) (by rw [Nat.add_assoc])]
      have := ents_tab (x := ⟨p, ((q + 12 + 4 * tabN cs q - p : Nat) : Int), opAt cs p, 0, 0, tabKeys cs q (tabN cs q), tabJumps cs p q (tabN cs q)⟩) (q := q) rfl rfl hln (tabN cs q) (Nat.le_refl _)
      rw [show q + 4 + 4 + 4 = q + 12 by omega, this]
      congr 1
      omega
    | 9, _ =>
      simp only [oneOk] at hok
      obtain ⟨hz, h8, h0, hln, hr⟩ := hok
      refine ⟨rfl, ?_⟩
      generalize hq : up4 (p + 1) = q at *
      have hn : ((lukN cs q : Nat) : Int) = far cs (q + 4) := by unfold lukN; omega
      simp only [oneIs, hq]
      unfold wrOne
      simp only [lukKeys_len, lukJumps_len]
      rw [if_pos ⟨trivial, by omega⟩]
      refine congrArg some ?_
      unfold swHead
      simp only [lukKeys_len, show ¬ (9 = 8) by decide, if_false]
      rw [hto, pad_take (by omega) (by rw [hq]; exact hz), hq, hn]
      rw [take_far (by omega) (show (lukJumps cs p q (lukN cs q)).getD 0 0 - (p : Int) = far cs q from by show (p : Int) + far cs q - (p : Int) = far cs q; omega), take_far (by omega) rfl]
      have := ents_luk (x := ⟨p, ((q + 8 + 8 * lukN cs q - p : Nat) : Int), opAt cs p, 0, 0, lukKeys cs q (lukN cs q), lukJumps cs p q (lukN cs q)⟩) (q := q) rfl rfl rfl hln (lukN cs q) (Nat.le_refl _)
      rw [show q + 4 + 4 = q + 8 by omega, this]
      congr 1
      omega
    | 10, _ =>
      simp only [oneOk] at hok
      obtain ⟨h5, h0⟩ := hok
      refine ⟨rfl, congrArg some ?_⟩
      show cs.take p ++ bigB 1 (opAt cs p : Int) ++ bigB 2 (numZ cs (p + 1) 2 : Int) ++ bigB 1 (numZ cs (p + 3) 1 : Int) ++ bigB 1 0 = cs.take (p + 5)
      rw [hto, take_num (q := p + 1) (by omega) (by omega) (by omega), take_num (q := p + 1 + 2) (by omega) (by omega) (by rw [show p + 1 + 2 = p + 3 by omega]; omega)]
      exact take_num (by omega) (by omega) (by rw [show p + 1 + 2 + 1 = p + 4 by omega, h0]; rfl)
    | n + 11, h => omega
  next => cases h
theorem opAt_lt (cs : Bs) (p : Nat) : opAt cs p < 256 := (cs.getD p 0#8).isLt
theorem wrFrom_rd {cs : Bs} (h4 : cs.length ≤ 4096) : ∀ (xs : List Ins) (p : Nat), p ≤ cs.length → rdFrom cs p = some xs → wrFrom (cs.take p) xs = some cs
  | [], p, hp, h => by
    obtain ⟨f, f0, fn, _⟩ := rdFrom_places [] p hp h
    rw [← f0, show f 0 = cs.length from fn]
    simp [wrFrom]
  | x :: xs, p, hp, h => by
    have hlt : p < cs.length := by
      refine Decidable.byContradiction fun hh => ?_
      rw [rdFrom_end hh] at h; cases h
    cases h1 : rdOne cs p with
    | none => rw [rdFrom_none hlt h1] at h; cases h
    | some y =>
      rw [rdFrom_some hlt h1] at h
      have hy := rdOne_len h1 hlt
      cases h2 : rdFrom cs (p + y.len.toNat) with
      | none => rw [h2] at h; cases h
      | some ys =>
        rw [h2] at h
        simp only [Option.map_some, Option.some.injEq, List.cons.injEq] at h
        obtain ⟨rfl, rfl⟩ := h
        obtain ⟨h3, h5⟩ := wrOne_rd h1 hlt h4
        have hop := opAt_lt cs p
        rw [wrFrom_some (b' := cs.take (p + y.len.toNat)) ⟨by rw [hy.1, List.length_take, Nat.min_eq_left hp], by omega, by omega⟩ (by rw [h3]; exact h5) (by rw [List.length_take]; omega)]
        exact wrFrom_rd h4 ys _ (by omega) h2
theorem wr_rd {cs : Bs} (h : rdE cs = 0) : wr (rdV cs) = some cs := by
  obtain ⟨h4, h1, h2, _⟩ := rd_in h
  have := wrFrom_rd h4 (rdV cs) 0 (Nat.zero_le _) h2
  rw [List.take_zero] at this
  unfold wr
  rw [this]
  simp only
  rw [if_pos h1]
theorem wrFrom_len : ∀ (l : List Ins) (b b' : Bs), b.length ≤ 4096 → wrFrom b l = some b' → b'.length ≤ 4096
  | [], b, b', hb, h => by cases h; exact hb
  | x :: l, b, b', hb, h => by
    unfold wrFrom at h
    split at h
    · split at h
      · split at h
        next h4 => exact wrFrom_len l _ b' h4 h
        next => cases h
      · cases h
    · cases h
theorem rd_wr {l : List Ins} {b : Bs} (h : wr l = some b) : rdV b = l ∧ rdE b = 0 := by
  unfold wr at h
  cases h1 : wrFrom [] l with
  | none => rw [h1] at h; cases h
  | some c =>
    rw [h1] at h
    simp only at h
    split at h
    next h2 =>
      cases h
      have h4 := wrFrom_len l [] b (by simp) h1
      unfold rdV rdE
      rw [if_pos h4, if_pos h4, h2]
      exact ⟨rfl, rfl⟩
    next => cases h
theorem rdV_keys {cs : Bs} : ∀ x ∈ rdV cs, x.keys.length ≤ 4096 := by
  by_cases h : rdE cs = 0
  · obtain ⟨h4, _, hrf, _⟩ := rd_in h
    obtain ⟨f, f0, fn, ff⟩ := rdFrom_places _ 0 (Nat.zero_le _) hrf
    intro x hx
    obtain ⟨i, hi⟩ := List.getElem?_of_mem hx
    obtain ⟨_, _, _, h1, h2⟩ := ff i x hi
    unfold rdOne at h1
    split at h1
    next hok =>
      obtain rfl := Option.some.inj h1
      have hw := wayOf_le (opAt cs (f i))
      generalize wayOf (opAt cs (f i)) = w at hok hw
      match w, hw with
      | 0, _ | 1, _ | 2, _ | 3, _ | 4, _ | 5, _ | 6, _ | 7, _ | 10, _ => simp [oneIs]
      | 8, _ => simp only [oneIs, oneOk, tabKeys_len] at *; omega
      | 9, _ => simp only [oneIs, oneOk, lukKeys_len] at *; omega
      | n + 11, h => omega
    next => cases h1
  · intro x hx
    rw [rd_out h] at hx
    cases hx
end Go.Proofs.Ytmdkinedbmjieaa
