/- Ops: how instructions are laid. No condition beyond what each contract names. -/
import Derived.Test.YtmdkinedbmjieaaOa
namespace Go.Proofs.Ytmdkinedbmjieaa
open Go.RowKit E
set_option linter.unusedVariables false
set_option linter.unusedSimpArgs false
set_option maxRecDepth 100000
attribute [local irreducible] ow qw kw kq cw opW Ret
theorem inf60 : infB Try.prog 60 2 2 (.agg #[.int .u8 0, .int .u8 0]) := ⟨_, rfl, rfl, rfl, rfl⟩
theorem inf41 : infB Try.prog 41 1 8 (.map none) := ⟨_, rfl, rfl, rfl, rfl⟩
theorem inf55 : infB Try.prog 55 1 1 (.int .u8 0) := ⟨_, rfl, rfl, rfl, rfl⟩
def spC (sp : List (Nat × Nat)) : List Value := sp.flatMap fun s => [.int .u8 (s.1 : Int), .int .u8 (s.2 : Int)]
theorem spC_at : ∀ (sp : List (Nat × Nat)) (j : Nat) (h : j < sp.length), (spC sp)[j * 2]? = some (.int .u8 ((sp[j]).1 : Int)) ∧ (spC sp)[j * 2 + 1]? = some (.int .u8 ((sp[j]).2 : Int))
  | s :: sp, 0, h => ⟨rfl, rfl⟩
  | s :: sp, j + 1, h => by
    have := spC_at sp j (by simpa using h)
    rw [show (j + 1) * 2 = j * 2 + 1 + 1 by omega]
    exact this
theorem inR_snoc (n : Nat) (r : Nat × Nat) : ∀ l, inR n (l ++ [r]) = (inR n l || (decide (r.1 ≤ n) && decide (n ≤ r.2)))
  | [] => by simp [inR]
  | s :: l => by simp only [List.cons_append, inR, inR_snoc n r l, Bool.or_assoc]
theorem lay_ok (w : World) (g r c : Nat) (m : List (Int × Value)) (sp : List (Nat × Nat)) (a : Option Addr) (f : BitVec 8) (hB : Blk w g #[.map (some r)] 41) (hM : Mp w r (Value.int .u8) m) (hR : Rd w a (spC sp)) (ha : Off [r] a) (hs : ∀ s ∈ sp, s.1 < 256 ∧ s.2 < 256) (hl : sp.length ≤ 100) :
    Ret Try.prog 23 [.int .u8 (f.toNat : Int), .slice a sp.length c, .pointer (some ⟨g, 0, none⟩)] w (fun v w' => (∃ m', Mp w' r (Value.int .u8) m' ∧ ∀ i : Nat, getM m' (i : Int) = if inR i sp then some (.int .u8 (f.toNat : Int)) else getM m (i : Int)) ∧ Keep [r] w w') := by
  have hgr := hM.blk hB
  refine fn_enter (n := 29) Try.func23 rfl rfl (Nat.le_of_ble_eq_true rfl) (fun e => ?_)
  refine k_seq ?_
  refine k_region ?_
  refine m_sl rfl rfl ?_
  refine o_lens Try.underlying58 rfl ?_
  refine m_int rfl rfl ?_
  refine o_nil ?_
  refine k_block ?_
  refine k_loop (σ := Nat × List (Int × Value)) (fun s => [(0, .int .u8 (f.toNat : Int)), (2, .pointer (some ⟨g, 0, none⟩)), (8, .slice a sp.length c), (9, .int .i64 (sp.length : Int)), (10, .int .i64 (s.1 : Int))]) (fun s w' => s.1 ≤ sp.length ∧ Mp w' r (Value.int .u8) s.2 ∧ (∀ i : Nat, getM s.2 (i : Int) = if inR i (sp.take s.1) then some (.int .u8 (f.toNat : Int)) else getM m (i : Int)) ∧ Keep [r] w w') (fun s => sp.length - s.1) (0, m) ⟨rfl, rfl, rfl, rfl, rfl, trivial⟩ ⟨by omega, hM, fun i => by simp [inR], Keep.refl _ _⟩ (fun s e w1 hJ => ?_)
  obtain ⟨j, m1⟩ := s
  obtain ⟨hj, hM1, hG1, hK1⟩ := hJ
  change kw _ _ _ _ (ovr [(0, .int .u8 (f.toNat : Int)), (2, .pointer (some ⟨g, 0, none⟩)), (8, .slice a sp.length c), (9, .int .i64 (sp.length : Int)), (10, .int .i64 (j : Int))] e) w1
  simp only at hj hM1 hG1
  refine k_seq ?_
  refine k_region ?_
  refine b_lss rfl rfl ?_
  refine o_nil ?_
  refine k_seq ?_
  refine k_cond rfl (fun h => ?_) (fun h => ?_)
  rotate_left
  ·
    refine k_exit rfl ?_
    refine k_end (end_tmps (ts := []) (v := .tuple #[]) rfl rfl ?_)
    refine ⟨⟨m1, hM1, fun i => ?_⟩, hK1⟩
    rw [hG1 i, List.take_of_length_le (by omega)]
  have hjl : j < sp.length := by omega
  have hat := spC_at sp j hjl
  obtain ⟨hs1, hs2⟩ := hs _ (List.getElem_mem hjl)
  generalize hsj : sp[j] = sj at hat hs1 hs2
  obtain ⟨lo, hi⟩ := sj
  simp only at hat hs1 hs2
  have hR1 := hR.keep hK1 ha
  obtain ⟨b1, o1, rfl, hc1⟩ := hR1 _ _ hat.1
  obtain ⟨b2, o2, hbo, hc2⟩ := hR1 _ _ hat.2
  cases hbo
  refine k_skip ?_
  refine k_seq ?_
  refine k_block ?_
  refine k_seq ?_
  refine k_region ?_
  refine o_ixs (sz := 2) Try.underlying58 rfl rfl rfl hjl ?_
  have hld : ∀ j' v, ([.int .u8 (lo : Int), .int .u8 (hi : Int)] : List Value)[j']? = some v → w1.cell? ⟨b1, o1 + j * 2 + j', none⟩ = some v := by
   intro j' v hv
   match j', hv with
   | 0, hv => cases hv; exact hc1
   | 1, hv => cases hv; exact hc2
  refine o_lda (xs := [.int .u8 (lo : Int), .int .u8 (hi : Int)]) rfl rfl rfl hld ?_
  refine o_alloc inf60 rfl (fun b w2 hB2 hK2 hb2 hZ2 => ?_)
  refine o_sta rfl rfl rfl (by simp [Value.oneCell']) hB2 (Nat.le_refl 2) (fun w3 hB3 hK3 hZ3 => ?_)
  have hM3 := (hM1.keep hK2 (by simp)).keep hK3 (by have := hM1.lt; simp; omega)
  have hK13 : Keep [r] w w3 := (hK1.trans hK2 (by simp)).trans hK3 (fun q hq hl => by have := hK1.size; simp at hq; omega)
  have hbr := hM3.blk hB3
  refine o_nil ?_
  refine k_seq ?_
  refine k_region ?_
  refine o_fld0 rfl rfl ?_
  refine o_ld rfl rfl (hB3.at (v := .int .u8 ((BitVec.ofNat 8 lo).toNat : Int)) (by rw [BitVec.toNat_ofNat, Nat.mod_eq_of_lt (by omega)]; rfl)) ?_
  refine cv8_i rfl Try.underlying3 rfl ?_
  refine m_int rfl rfl ?_
  refine o_nil ?_
  refine k_block ?_
  refine k_loop (σ := Nat × List (Int × Value)) (fun s => [(0, .int .u8 (f.toNat : Int)), (2, .pointer (some ⟨g, 0, none⟩)), (6, .pointer (some ⟨b, 0, none⟩)), (7, .int .i64 (s.1 : Int)), (8, .slice (some ⟨b1, o1, none⟩) sp.length c), (9, .int .i64 (sp.length : Int)), (10, .int .i64 (j : Int))]) (fun s w' => lo ≤ s.1 ∧ (s.1 = lo ∨ s.1 ≤ hi + 1) ∧ Mp w' r (Value.int .u8) s.2 ∧ (∀ i : Nat, getM s.2 (i : Int) = if inR i (sp.take j) || (decide (lo ≤ i) && decide (i < s.1)) then some (.int .u8 (f.toNat : Int)) else getM m (i : Int)) ∧ Keep [r] w3 w') (fun s => hi + 1 - s.1) (lo, m1) ⟨rfl, rfl, rfl, congrArg (fun x : Nat => Value.int .i64 (x : Int)) (show (BitVec.ofNat 8 lo).toNat = lo by rw [BitVec.toNat_ofNat, Nat.mod_eq_of_lt (by omega)]), rfl, rfl, rfl, trivial⟩ ⟨Nat.le_refl _, .inl rfl, hM3, fun i => by rw [hG1 i, show (decide (lo ≤ i) && decide (i < lo)) = false by simp, Bool.or_false], Keep.refl _ _⟩ (fun s e w4 hJ => ?_)
  obtain ⟨i, m4⟩ := s
  obtain ⟨hlo, hhi, hM4, hG4, hK4⟩ := hJ
  change kw _ _ _ _ (ovr [(0, .int .u8 (f.toNat : Int)), (2, .pointer (some ⟨g, 0, none⟩)), (6, .pointer (some ⟨b, 0, none⟩)), (7, .int .i64 (i : Int)), (8, .slice (some ⟨b1, o1, none⟩) sp.length c), (9, .int .i64 (sp.length : Int)), (10, .int .i64 (j : Int))] e) w4
  simp only at hlo hhi hM4 hG4
  have hB4 := hB3.keep hK4 (by simpa using hbr)
  have hg4 := (hB.keep (hK13.trans hK4 (fun _ h _ => h)) (by simpa using hgr))
  refine k_seq ?_
  refine k_seq ?_
  refine k_region ?_
  refine m_int rfl rfl ?_
  refine o_fld (off := 1) rfl rfl ?_
  refine o_ld rfl rfl (hB4.at (v := .int .u8 ((BitVec.ofNat 8 hi).toNat : Int)) (by rw [BitVec.toNat_ofNat, Nat.mod_eq_of_lt (by omega)]; rfl)) ?_
  refine cv8_i rfl Try.underlying3 rfl ?_
  refine b_leq rfl rfl ?_
  refine o_nil ?_
  refine k_cond rfl (fun h => ?_) (fun h => ?_)
  rotate_left
  ·
    have hih : ¬ i ≤ hi := by
     rw [BitVec.toNat_ofNat, Nat.mod_eq_of_lt (by omega)] at h; omega
    refine k_exit rfl ?_
    refine k_blk ?_
    refine k_region ?_
    refine n_add rfl rfl (by omega) ?_
    refine m_int rfl rfl ?_
    refine o_nil ?_
    refine k_goal ⟨(j + 1, m4), ⟨rfl, rfl, rfl, rfl, rfl, trivial⟩, ⟨by simp only; omega, hM4, fun i' => ?_, hK13.trans hK4 (fun _ h _ => h)⟩, by simp only; omega⟩
    rw [hG4 i', List.take_succ_eq_append_getElem hjl, inR_snoc, hsj]
    rw [show (decide (lo ≤ i') && decide (i' < i)) = (decide (lo ≤ i') && decide (i' ≤ hi)) by rw [Bool.eq_iff_iff]; simp; omega]
  have hih : i ≤ hi := by
   rw [BitVec.toNat_ofNat, Nat.mod_eq_of_lt (by omega)] at h; omega
  refine k_skip ?_
  refine k_seq ?_
  refine k_block ?_
  refine k_region ?_
  refine o_ld rfl rfl (hg4.at rfl) ?_
  refine m_int rfl rfl ?_
  refine cv8 rfl Try.underlying5 rfl ?_
  refine m_int rfl rfl ?_
  refine o_mput (kv := Value.int .u8) (q := (i : Int)) Try.underlying41 (key_int Try.underlying5) rfl (by show Value.int .u8 ((BitVec.ofInt 8 (i : Int)).toNat : Int) = _; rw [BitVec.toNat_ofInt]; exact congrArg (Value.int .u8) (by omega)) rfl hM4 (.inl rfl) (fun w5 hM5 hK5 hZ5 => ?_)
  refine o_nil ?_
  refine k_blk ?_
  refine k_region ?_
  refine m_int rfl rfl ?_
  refine n_add rfl rfl (by omega) ?_
  refine m_int rfl rfl ?_
  refine o_nil ?_
  refine k_goal ⟨(i + 1, _), ⟨rfl, rfl, rfl, rfl, rfl, rfl, rfl, trivial⟩, ⟨by simp only; omega, .inr (by simp only; omega), hM5, fun i' => ?_, hK4.trans hK5 (fun _ h _ => h)⟩, by simp only; omega⟩
  rw [getM_put]
  by_cases hii : i' = i
  · subst hii
    rw [if_pos rfl, if_pos (by simp; omega)]
    rfl
  · rw [if_neg (by omega), hG4 i']
    rw [show decide (i' < i + 1) = decide (i' < i) from decide_eq_decide.2 (by omega)]
theorem ways : ∀ i : Fin 256, (if inR i.val rBare then some (1 : Int) else if inR i.val rHop then some 7 else if inR i.val rWide then some 4 else if inR i.val rLow then some 2 else if i.val = 185 then some 10 else if i.val = 171 then some 9 else if i.val = 170 then some 8 else if i.val = 132 then some 6 else if i.val = 17 then some 5 else if i.val = 16 then some 3 else none) = if wayOf i.val = 0 then none else some (wayOf i.val : Int) := by decide
/-- the table of the ways in memory -/
def Tab (w : World) (r : Nat) : Prop := ∃ m, Mp w r (Value.int .u8) m ∧ ∀ i : Nat, i < 256 → getM m (i : Int) = if wayOf i = 0 then none else some (.int .u8 (wayOf i : Int))
theorem Tab.keep {S : List Nat} {w w' : World} {r : Nat} (h : Tab w r) (hk : Keep S w w') (hr : r ∉ S) : Tab w' r := by
  obtain ⟨m, h1, h2⟩ := h
  exact ⟨m, h1.keep hk hr, h2⟩
theorem getM_lits (i : Nat) : getM (putM (putM (putM (putM (putM (putM [] (16 : Int) (Value.int .u8 3)) 17 (.int .u8 5)) 132 (.int .u8 6)) 170 (.int .u8 8)) 171 (.int .u8 9)) 185 (.int .u8 10)) (i : Int) = (if i = 185 then some (10 : Int) else if i = 171 then some 9 else if i = 170 then some 8 else if i = 132 then some 6 else if i = 17 then some 5 else if i = 16 then some 3 else none).map (Value.int .u8) := by
  simp only [getM_put, getM_nil]
  have e1 : ((i : Int) = 185) = (i = 185) := propext (by omega)
  have e2 : ((i : Int) = 171) = (i = 171) := propext (by omega)
  have e3 : ((i : Int) = 170) = (i = 170) := propext (by omega)
  have e4 : ((i : Int) = 132) = (i = 132) := propext (by omega)
  have e5 : ((i : Int) = 17) = (i = 17) := propext (by omega)
  have e6 : ((i : Int) = 16) = (i = 16) := propext (by omega)
  simp only [e1, e2, e3, e4, e5, e6]
  repeat' split
  all_goals rfl
theorem ways_v (i : Nat) (hi : i < 256) : (if inR i rBare = true then some (Value.int .u8 ((1#8).toNat : Int)) else if inR i rHop = true then some (Value.int .u8 ((7#8).toNat : Int)) else if inR i rWide = true then some (Value.int .u8 ((4#8).toNat : Int)) else if inR i rLow = true then some (Value.int .u8 ((2#8).toNat : Int)) else (if i = 185 then some (10 : Int) else if i = 171 then some 9 else if i = 170 then some 8 else if i = 132 then some 6 else if i = 17 then some 5 else if i = 16 then some 3 else none).map (Value.int .u8)) = if wayOf i = 0 then none else some (.int .u8 (wayOf i : Int)) := by
  have h2 := congrArg (Option.map (Value.int .u8)) (ways ⟨i, hi⟩)
  have c1 : ((1#8).toNat : Int) = 1 := rfl
  have c2 : ((7#8).toNat : Int) = 7 := rfl
  have c3 : ((4#8).toNat : Int) = 4 := rfl
  have c4 : ((2#8).toNat : Int) = 2 := rfl
  rw [c1, c2, c3, c4]
  simp only [apply_ite (Option.map (Value.int .u8)), Option.map_some, Option.map_none] at h2 ⊢
  exact h2
theorem forms_ok (w : World) : Ret Try.prog 17 [] w (fun v w' => ∃ r, v = .map (some r) ∧ Tab w' r ∧ Keep [] w w' ∧ w.heap.size ≤ r) := by
  refine fn_enter (n := 51) Try.func17 rfl rfl (Nat.le_of_ble_eq_true rfl) (fun e => ?_)
  refine k_seq ?_
  refine k_region ?_
  refine m_map rfl rfl ?_
  refine o_nil ?_
  refine k_seq ?_
  refine k_region ?_
  refine o_mkmap (Value.int .u8) (fun r w1 hM hK hb hZ => ?_)
  refine o_mput (kv := Value.int .u8) Try.underlying41 (key_int Try.underlying5) rfl rfl rfl hM (.inr rfl) (fun w1 hM hK2 hZ => ?_)
  replace hK := hK.trans hK2 (by simp; omega)
  refine o_mput (kv := Value.int .u8) Try.underlying41 (key_int Try.underlying5) rfl rfl rfl hM (.inr rfl) (fun w1 hM hK2 hZ => ?_)
  replace hK := hK.trans hK2 (by simp; omega)
  refine o_mput (kv := Value.int .u8) Try.underlying41 (key_int Try.underlying5) rfl rfl rfl hM (.inr rfl) (fun w1 hM hK2 hZ => ?_)
  replace hK := hK.trans hK2 (by simp; omega)
  refine o_mput (kv := Value.int .u8) Try.underlying41 (key_int Try.underlying5) rfl rfl rfl hM (.inr rfl) (fun w1 hM hK2 hZ => ?_)
  replace hK := hK.trans hK2 (by simp; omega)
  refine o_mput (kv := Value.int .u8) Try.underlying41 (key_int Try.underlying5) rfl rfl rfl hM (.inr rfl) (fun w1 hM hK2 hZ => ?_)
  replace hK := hK.trans hK2 (by simp; omega)
  refine o_mput (kv := Value.int .u8) Try.underlying41 (key_int Try.underlying5) rfl rfl rfl hM (.inr rfl) (fun w1 hM hK2 hZ => ?_)
  replace hK := hK.trans hK2 (by simp; omega)
  refine m_map rfl rfl ?_
  refine o_alloc inf41 rfl (fun g w2 hB hK2 hb2 hZ2 => ?_)
  replace hK := hK.tr hK2
  replace hM := hM.keep hK2 (by simp)
  have hgr := hM.blk hB
  refine o_st (v := .map (some r)) rfl rfl rfl rfl hB (show 0 < 1 by decide) (fun w3 hB hK2 hZ3 => ?_)
  replace hK := hK.trans hK2 (by simp; omega)
  replace hM := hM.keep hK2 (by simpa using fun e => hgr e.symm)
  replace hM : Mp w3 r (Value.int .u8) (putM (putM (putM (putM (putM (putM [] (16 : Int) (Value.int .u8 3)) 17 (.int .u8 5)) 132 (.int .u8 6)) 170 (.int .u8 8)) 171 (.int .u8 9)) 185 (.int .u8 10)) := hM
  have hG0 := getM_lits
  generalize putM (putM (putM (putM (putM (putM [] (16 : Int) (Value.int .u8 3)) 17 (.int .u8 5)) 132 (.int .u8 6)) 170 (.int .u8 8)) 171 (.int .u8 9)) 185 (.int .u8 10) = m0 at hM hG0
  refine o_nil ?_
  refine k_seq ?_
  refine k_region ?_
  refine o_mkfn (vs := [.pointer (some ⟨g, 0, none⟩)]) rfl ?_
  refine m_any rfl rfl ?_
  refine o_nil ?_
  refine k_seq ?_
  refine k_region ?_
  refine m_any rfl rfl ?_
  refine o_build (v := .agg #[.int .u8 18, .int .u8 18]) rfl (fun _ => by kernel_rfl) ?_
  refine o_build (v := .agg #[.int .u8 21, .int .u8 22]) rfl (fun _ => by kernel_rfl) ?_
  refine o_build (v := .agg #[.int .u8 25, .int .u8 25]) rfl (fun _ => by kernel_rfl) ?_
  refine o_build (v := .agg #[.int .u8 54, .int .u8 55]) rfl (fun _ => by kernel_rfl) ?_
  refine o_build (v := .agg #[.int .u8 58, .int .u8 58]) rfl (fun _ => by kernel_rfl) ?_
  refine o_build (v := .agg #[.int .u8 188, .int .u8 188]) rfl (fun _ => by kernel_rfl) ?_
  refine o_bsl (E := 60) (cs := (spC rLow).toArray) rfl (fun _ => by kernel_rfl) (fun g13 w4 hS hK2 hb13 hZ13 => ?_)
  replace hK := hK.tr hK2
  replace hM := hM.keep hK2 (by simp)
  replace hB := hB.keep hK2 (by simp)
  have hgr13 := hM.blk hS
  refine o_callc (f := 23) (caps := [.pointer (some ⟨g, 0, none⟩)]) (vs := [.int .u8 ((2#8).toNat : Int), .slice (some ⟨g13, 0, none⟩) rLow.length 6]) rfl rfl rfl (lay_ok w4 g r 6 _ rLow (some ⟨g13, 0, none⟩) 2#8 hB hM hS.rd (by intro p hp; cases hp; simpa using hgr13) (by decide) (by decide)) (fun v w5 hv => ?_)
  obtain ⟨⟨m14, hM, hG14⟩, hK2⟩ := hv
  replace hK := hK.trans hK2 (by simp; omega)
  replace hB := hB.keep hK2 (by simpa using hgr)
  refine o_nil ?_
  refine k_seq ?_
  refine k_region ?_
  refine m_any rfl rfl ?_
  refine o_build (v := .agg #[.int .u8 19, .int .u8 20]) rfl (fun _ => by kernel_rfl) ?_
  refine o_build (v := .agg #[.int .u8 178, .int .u8 184]) rfl (fun _ => by kernel_rfl) ?_
  refine o_build (v := .agg #[.int .u8 187, .int .u8 187]) rfl (fun _ => by kernel_rfl) ?_
  refine o_build (v := .agg #[.int .u8 189, .int .u8 189]) rfl (fun _ => by kernel_rfl) ?_
  refine o_build (v := .agg #[.int .u8 192, .int .u8 193]) rfl (fun _ => by kernel_rfl) ?_
  refine o_bsl (E := 60) (cs := (spC rWide).toArray) rfl (fun _ => by kernel_rfl) (fun g21 w4 hS hK2 hb21 hZ21 => ?_)
  replace hK := hK.tr hK2
  replace hM := hM.keep hK2 (by simp)
  replace hB := hB.keep hK2 (by simp)
  have hgr21 := hM.blk hS
  refine o_callc (f := 23) (caps := [.pointer (some ⟨g, 0, none⟩)]) (vs := [.int .u8 ((4#8).toNat : Int), .slice (some ⟨g21, 0, none⟩) rWide.length 5]) rfl rfl rfl (lay_ok w4 g r 5 _ rWide (some ⟨g21, 0, none⟩) 4#8 hB hM hS.rd (by intro p hp; cases hp; simpa using hgr21) (by decide) (by decide)) (fun v w5 hv => ?_)
  obtain ⟨⟨m22, hM, hG22⟩, hK2⟩ := hv
  replace hK := hK.trans hK2 (by simp; omega)
  replace hB := hB.keep hK2 (by simpa using hgr)
  refine o_nil ?_
  refine k_seq ?_
  refine k_region ?_
  refine m_any rfl rfl ?_
  refine o_build (v := .agg #[.int .u8 153, .int .u8 167]) rfl (fun _ => by kernel_rfl) ?_
  refine o_build (v := .agg #[.int .u8 198, .int .u8 199]) rfl (fun _ => by kernel_rfl) ?_
  refine o_bsl (E := 60) (cs := (spC rHop).toArray) rfl (fun _ => by kernel_rfl) (fun g26 w4 hS hK2 hb26 hZ26 => ?_)
  replace hK := hK.tr hK2
  replace hM := hM.keep hK2 (by simp)
  replace hB := hB.keep hK2 (by simp)
  have hgr26 := hM.blk hS
  refine o_callc (f := 23) (caps := [.pointer (some ⟨g, 0, none⟩)]) (vs := [.int .u8 ((7#8).toNat : Int), .slice (some ⟨g26, 0, none⟩) rHop.length 2]) rfl rfl rfl (lay_ok w4 g r 2 _ rHop (some ⟨g26, 0, none⟩) 7#8 hB hM hS.rd (by intro p hp; cases hp; simpa using hgr26) (by decide) (by decide)) (fun v w5 hv => ?_)
  obtain ⟨⟨m27, hM, hG27⟩, hK2⟩ := hv
  replace hK := hK.trans hK2 (by simp; omega)
  replace hB := hB.keep hK2 (by simpa using hgr)
  refine o_nil ?_
  refine k_seq ?_
  refine k_region ?_
  refine m_any rfl rfl ?_
  refine o_build (v := .agg #[.int .u8 0, .int .u8 10]) rfl (fun _ => by kernel_rfl) ?_
  refine o_build (v := .agg #[.int .u8 26, .int .u8 33]) rfl (fun _ => by kernel_rfl) ?_
  refine o_build (v := .agg #[.int .u8 42, .int .u8 47]) rfl (fun _ => by kernel_rfl) ?_
  refine o_build (v := .agg #[.int .u8 50, .int .u8 53]) rfl (fun _ => by kernel_rfl) ?_
  refine o_build (v := .agg #[.int .u8 59, .int .u8 66]) rfl (fun _ => by kernel_rfl) ?_
  refine o_build (v := .agg #[.int .u8 75, .int .u8 80]) rfl (fun _ => by kernel_rfl) ?_
  refine o_build (v := .agg #[.int .u8 83, .int .u8 97]) rfl (fun _ => by kernel_rfl) ?_
  refine o_build (v := .agg #[.int .u8 100, .int .u8 101]) rfl (fun _ => by kernel_rfl) ?_
  refine o_build (v := .agg #[.int .u8 104, .int .u8 105]) rfl (fun _ => by kernel_rfl) ?_
  refine o_build (v := .agg #[.int .u8 108, .int .u8 109]) rfl (fun _ => by kernel_rfl) ?_
  refine o_build (v := .agg #[.int .u8 112, .int .u8 113]) rfl (fun _ => by kernel_rfl) ?_
  refine o_build (v := .agg #[.int .u8 116, .int .u8 117]) rfl (fun _ => by kernel_rfl) ?_
  refine o_build (v := .agg #[.int .u8 120, .int .u8 131]) rfl (fun _ => by kernel_rfl) ?_
  refine o_build (v := .agg #[.int .u8 133, .int .u8 133]) rfl (fun _ => by kernel_rfl) ?_
  refine o_build (v := .agg #[.int .u8 136, .int .u8 136]) rfl (fun _ => by kernel_rfl) ?_
  refine o_build (v := .agg #[.int .u8 145, .int .u8 148]) rfl (fun _ => by kernel_rfl) ?_
  refine o_build (v := .agg #[.int .u8 172, .int .u8 173]) rfl (fun _ => by kernel_rfl) ?_
  refine o_build (v := .agg #[.int .u8 176, .int .u8 177]) rfl (fun _ => by kernel_rfl) ?_
  refine o_build (v := .agg #[.int .u8 190, .int .u8 191]) rfl (fun _ => by kernel_rfl) ?_
  refine o_bsl (E := 60) (cs := (spC rBare).toArray) rfl (fun _ => by kernel_rfl) (fun g48 w4 hS hK2 hb48 hZ48 => ?_)
  replace hK := hK.tr hK2
  replace hM := hM.keep hK2 (by simp)
  replace hB := hB.keep hK2 (by simp)
  have hgr48 := hM.blk hS
  refine o_callc (f := 23) (caps := [.pointer (some ⟨g, 0, none⟩)]) (vs := [.int .u8 ((1#8).toNat : Int), .slice (some ⟨g48, 0, none⟩) rBare.length 19]) rfl rfl rfl (lay_ok w4 g r 19 _ rBare (some ⟨g48, 0, none⟩) 1#8 hB hM hS.rd (by intro p hp; cases hp; simpa using hgr48) (by decide) (by decide)) (fun v w5 hv => ?_)
  obtain ⟨⟨m49, hM, hG49⟩, hK2⟩ := hv
  replace hK := hK.trans hK2 (by simp; omega)
  replace hB := hB.keep hK2 (by simpa using hgr)
  refine o_nil ?_
  refine k_seq ?_
  refine k_region ?_
  refine o_ld rfl rfl (hB.at rfl) ?_
  refine m_map rfl rfl ?_
  refine o_nil ?_
  refine k_ret (ret_tmps (ts := [0]) (v := .map _) rfl rfl ?_)
  refine ⟨r, rfl, ⟨m49, hM, fun i hi => ?_⟩, hK, by omega⟩
  rw [hG49 i, hG27 i, hG22 i, hG14 i, hG0 i]
  exact ways_v i hi
end Go.Proofs.Ytmdkinedbmjieaa
