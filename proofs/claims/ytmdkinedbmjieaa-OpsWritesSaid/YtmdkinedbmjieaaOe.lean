/- Ops: the walk of reader.one. No condition beyond what its contract names. -/
import Derived.Test.YtmdkinedbmjieaaOd
namespace Go.Proofs.Ytmdkinedbmjieaa
open Go.RowKit E
set_option linter.unusedVariables false
set_option linter.unusedSimpArgs false
set_option maxRecDepth 100000
attribute [local irreducible] ow qw kw kq cw opW Ret
theorem inf38 : infB Try.prog 38 7 88 (.agg #[.int .i64 0, .int .i64 0, .int .i64 0, .int .i64 0, .int .i64 0, .slice none 0 0, .slice none 0 0]) := ⟨_, rfl, rfl, rfl, rfl⟩
/-- a slice of ints that was made from a block on -/
def GS (base : Nat) (w : World) (v : Value) (xs : List Int) : Prop := ∃ a c, v = .slice a xs.length c ∧ Sl w 3 1 a xs.length c (xs.map iv) ∧ ∀ z, a = some z → base ≤ z.block
theorem GS.nil (base : Nat) (w : World) : GS base w (.slice none 0 0) [] := ⟨none, 0, rfl, Sl.nil _ _ _, by simp⟩
/-- the cells of an instruction -/
def insC (G : Value → List Int → Prop) (cs : List Value) (x : Ins) : Prop := ∃ kv jv, cs = [iv x.p, iv x.len, iv x.op, iv x.a, iv x.b, kv, jv] ∧ G kv x.keys ∧ G jv x.jumps
theorem insC.mono {G G' : Value → List Int → Prop} {cs : List Value} {x : Ins} (h : insC G cs x) (hg : ∀ v l, G v l → G' v l) : insC G' cs x := by
  obtain ⟨kv, jv, h1, h2, h3⟩ := h
  exact ⟨kv, jv, h1, hg _ _ h2, hg _ _ h3⟩
theorem insC.len {G : Value → List Int → Prop} {cs : List Value} {x : Ins} (h : insC G cs x) : cs.length = 7 := by
  obtain ⟨kv, jv, rfl, _⟩ := h; rfl
theorem GS.one {base : Nat} {w : World} {v : Value} {xs : List Int} (h : GS base w v xs) : v.oneCell' = true := by
  obtain ⟨a, c, rfl, _⟩ := h; rfl
theorem GS.keep {base : Nat} {S : List Nat} {w w' : World} {v : Value} {xs : List Int} (h : GS base w v xs) (hk : Keep S w w') (hS : ∀ b ∈ S, b < base ∨ ∀ cs, ¬ Blk w b cs 3) : GS base w' v xs := by
  obtain ⟨a, c, h1, h2, h3⟩ := h
  refine ⟨a, c, h1, h2.keep hk (fun z hz hm => ?_), h3⟩
  rcases hS _ hm with hb | hb
  · have := h3 z hz; omega
  · rcases h2.2 with ⟨h0, _⟩ | ⟨g, cur, h0, hB, _⟩
    · rw [h0] at hz; cases hz
    · rw [h0] at hz; cases hz; exact hb cur hB
theorem insC.one {base : Nat} {w : World} {cs : List Value} {x : Ins} (h : insC (GS base w) cs x) : ∀ u ∈ cs, u.oneCell' = true := by
  obtain ⟨kv, jv, rfl, h2, h3⟩ := h
  intro u hu
  simp only [List.mem_cons, List.not_mem_nil, or_false] at hu
  rcases hu with rfl | rfl | rfl | rfl | rfl | rfl | rfl
  all_goals first | rfl | exact h2.one | exact h3.one
theorem rdOne_of {cs : Bs} {p n : Nat} (h : wayOf (opAt cs p) = n) : rdOne cs p = if oneOk cs p n then some (oneIs cs p (opAt cs p) n) else none := by
  unfold rdOne; rw [h]
/-- what one answers -/
def OneR (k H r mm xb : Nat) (cs : Bs) (p : Nat) (w' : World) : Prop := ∃ xs x fl', Blk w' xb xs.toArray 38 ∧ insC (GS H w') xs x ∧ Rdr k w' r mm cs fl' ∧ (fl' = true → rdOne cs p = none) ∧ (fl' = false → rdOne cs p = some x)
theorem OneR.of {k H r mm xb : Nat} {cs : Bs} {p n : Nat} {w' : World} {xs : List Value} {x : Ins} {fl' : Bool} (hW : wayOf (opAt cs p) = n) (hB : Blk w' xb xs.toArray 38) (hi : insC (GS H w') xs x) (hR : Rdr k w' r mm cs fl') (hf : fl' = !decide (oneOk cs p n)) (hx : oneOk cs p n → x = oneIs cs p (opAt cs p) n) : OneR k H r mm xb cs p w' := by
  refine ⟨xs, x, fl', hB, hi, hR, fun h => ?_, fun h => ?_⟩
  · rw [rdOne_of hW, if_neg]
    intro hh
    rw [hf, decide_eq_true hh] at h; cases h
  · have hh : oneOk cs p n := by
      rw [hf] at h
      simpa using h
    rw [rdOne_of hW, if_pos hh, hx hh]
set_option maxHeartbeats 1000000 in
theorem one_ok (k : Nat) (w : World) (r mm p : Nat) (cs : Bs) (hR : Rdr k w r mm cs false) (hT : Tab w mm) (hp : p < cs.length) (hk : k ≤ w.heap.size) :
    Ret Try.prog 18 [.pointer (some ⟨r, 0, none⟩), .int .i64 (p : Int)] w (fun v w' => ∃ fl' xs x, v = .agg xs.toArray ∧ insC (GS w.heap.size w') xs x ∧ Rdr k w' r mm cs fl' ∧ Keep [r] w w' ∧ (fl' = true → rdOne cs p = none) ∧ (fl' = false → rdOne cs p = some x)) := by
  have hlen : cs.length ≤ 4096 := hR.choose_spec.choose_spec.2.2.2.2.2
  have hrlt : r < w.heap.size := hR.choose_spec.choose_spec.1.lt
  obtain ⟨b, hb⟩ : ∃ b, cs[p]? = some b := ⟨_, List.getElem?_eq_getElem hp⟩
  have hopb : opAt cs p = b.toNat := by unfold opAt; rw [List.getD_eq_getElem?_getD, hb]; rfl
  have hub : (cs.map u8v)[p]? = some (.int .u8 (b.toNat : Int)) := by rw [List.getElem?_map, hb]; rfl
  obtain ⟨ar, cr, hBr, hRr, h3r, h4r, h5r⟩ := hR
  obtain ⟨br, or_, har, hcr⟩ := hRr _ _ hub
  subst har
  obtain ⟨m, hM, hG⟩ := hT
  obtain ⟨f, hfd⟩ : ∃ f, f = BitVec.ofNat 8 (wayOf (opAt cs p)) := ⟨_, rfl⟩
  have hwle := wayOf_le (opAt cs p)
  have hfn : f.toNat = wayOf (opAt cs p) := by rw [hfd, BitVec.toNat_ofNat]; omega
  have hway : ∀ n, f = BitVec.ofNat 8 n → n ≤ 10 → wayOf (opAt cs p) = n := by
    intro n h1 h2
    rw [← hfn, h1, BitVec.toNat_ofNat]; omega
  refine fn_enter (n := 134) Try.func18 rfl rfl (Nat.le_of_ble_eq_true rfl) (fun e => ?_)
  refine k_seq ?_
  refine k_region ?_
  refine o_alloc inf38 rfl (fun b4 w1 hB1 hK1 hb1 hZ1 => ?_)
  refine o_nil ?_
  refine k_seq ?_
  refine k_region ?_
  refine m_int rfl rfl ?_
  refine m_ptr rfl rfl ?_
  refine o_nilc rfl ?_
  refine o_fld0 rfl rfl ?_
  refine o_ld rfl rfl ((hBr.keep hK1 (by simp)).at rfl) ?_
  refine m_int rfl rfl ?_
  refine o_ixs1 Try.underlying22 rfl rfl rfl hp ?_
  refine o_ld rfl rfl (hRr.cellK hK1 hub) ?_
  refine cv8_i rfl Try.underlying3 rfl ?_
  refine o_build (v := .agg #[iv p, iv 1, iv b.toNat, iv 0, iv 0, .slice none 0 0, .slice none 0 0]) rfl (fun _ => by kernel_rfl) ?_
  refine o_alloc inf38 rfl (fun xb w2 hB2 hK2 hb2 hZ2 => ?_)
  refine o_sta (xs := [iv p, iv 1, iv b.toNat, iv 0, iv 0, .slice none 0 0, .slice none 0 0]) rfl rfl rfl (by simp [Value.oneCell', iv]) hB2 (Nat.le_refl 7) (fun w3 hB3 hK3 hZ3 => ?_)
  have hK13 : Keep [] w w3 := (hK1.tr hK2).trans hK3 (by simp; omega)
  have hB43 : Blk w3 b4 _ 38 := (hB1.keep hK2 (by simp)).keep hK3 (by simp; omega)
  have hX3 : Blk w3 xb #[iv p, iv 1, iv (opAt cs p), iv 0, iv 0, .slice none 0 0, .slice none 0 0] 38 := by rw [hopb]; exact hB3
  refine o_nil ?_
  refine k_seq ?_
  refine k_qk 11 rfl rfl rfl rfl rfl ?_
  refine q_step (fun w1 hC => m_ptr rfl rfl (o_nil ⟨rfl, hC⟩)) ?_
  refine q_step (fun w1 hC => o_nilc rfl (o_nil ⟨rfl, hC⟩)) ?_
  refine q_step (fun w1 hC => o_fld (off := 1) rfl rfl (o_nil ⟨rfl, hC⟩)) ?_
  refine q_step (fun w1 hC => o_ld rfl rfl ((hBr.keep (hK13.tr hC) (by simp)).at rfl) (o_nil ⟨rfl, hC⟩)) ?_
  refine q_step (fun w1 hC => m_ptr rfl rfl (o_nil ⟨rfl, hC⟩)) ?_
  refine q_step (fun w1 hC => o_nilc rfl (o_nil ⟨rfl, hC⟩)) ?_
  refine q_step (fun w1 hC => o_fld0 rfl rfl (o_nil ⟨rfl, hC⟩)) ?_
  refine q_step (fun w1 hC => o_ld rfl rfl ((hBr.keep (hK13.tr hC) (by simp)).at rfl) (o_nil ⟨rfl, hC⟩)) ?_
  refine q_step (fun w1 hC => m_int rfl rfl (o_nil ⟨rfl, hC⟩)) ?_
  refine q_step (fun w1 hC => o_ixs1 Try.underlying22 rfl rfl rfl hp (o_nil ⟨rfl, hC⟩)) ?_
  refine q_step (fun w1 hC => o_ld rfl rfl (hRr.cellK (hK13.tr hC) hub) (o_nil ⟨rfl, hC⟩)) ?_
  refine q_nil ?_
  intro w4 hC4
  have hK4 := hK13.tr hC4
  have hX4 := hX3.keep hC4 (by simp)
  have hB44 := hB43.keep hC4 (by simp)
  have hR4 : Rdr k w4 r mm cs false := ⟨_, _, hBr.keep hK4 (by simp), hRr.new hK4, h3r, h4r, h5r⟩
  have hrx : r ≠ xb := by omega
  refine o_look (kv := Value.int .u8) (q := (b.toNat : Int)) Try.underlying41 (key_int Try.underlying5) inf55 rfl rfl (hM.keep hK4 (by simp)) (v := .int .u8 (f.toNat : Int)) (by
   rw [hG b.toNat b.isLt, ← hopb, hfn]
   by_cases h0 : wayOf (opAt cs p) = 0
   · rw [if_pos h0, h0]; rfl
   · rw [if_neg h0]; rfl) ?_
  refine m_int rfl rfl ?_
  refine o_nil ?_
  refine k_seq ?_
  refine k_seq ?_
  refine k_region ?_
  refine m_int rfl rfl ?_
  refine o_nil ?_
  refine k_cut (σ := Unit) (fun _ => [(4, .pointer (some ⟨b4, 0, none⟩)), (5, .pointer (some ⟨xb, 0, none⟩))]) (fun _ w' => OneR k w.heap.size r mm xb cs p w' ∧ Keep [r, xb] w4 w') ?_ (fun _ e w' hJ => ?_)
  ·
    refine k_block ?_
    refine k_seq ?_
    refine k_region ?_
    refine v8_eql (b := 1#8) rfl rfl ?_
    refine m_bool rfl rfl ?_
    refine o_nil ?_
    refine k_cond rfl (fun h => ?_) (fun h => ?_)
    ·
      refine k_skip ?_
      refine k_blk ?_
      refine k_goal ⟨(), ⟨rfl, rfl, trivial⟩, OneR.of (xs := [iv p, iv 1, iv (opAt cs p), iv 0, iv 0, .slice none 0 0, .slice none 0 0]) (x := oneIs cs p (opAt cs p) 1) (hway 1 h (by decide)) hX4 ⟨_, _, rfl, GS.nil _ _, GS.nil _ _⟩ hR4 (by rw [decide_eq_true (show oneOk cs p 1 from trivial)]; rfl) (fun _ => rfl), Keep.refl _ _⟩
    have hn1 := h
    refine k_seq ?_
    refine k_region ?_
    refine v8_eql (b := 2#8) rfl rfl ?_
    refine m_bool rfl rfl ?_
    refine o_nil ?_
    refine k_cond rfl (fun h => ?_) (fun h => ?_)
    ·
      refine k_region ?_
      refine m_ptr rfl rfl ?_
      refine m_int rfl rfl ?_
      refine n_add rfl rfl (by omega) ?_
      refine o_call rfl rfl (num_ok k w4 r mm (p + 1) 1 cs _ hR4 (by omega) (by decide) (by decide)) (fun v w5 hv => ?_)
      obtain ⟨rfl, hR5, hK5, hZ5⟩ := hv
      have hlt5 := numZ_lt cs (p + 1) 1
      refine o_fld (off := 1) rfl rfl ?_
      refine o_st (v := iv 2) rfl rfl rfl rfl (hX4.keep hK5 (by simpa using fun e => hrx e.symm)) (show 1 < 7 by decide) (fun w6 hB6 hK6 hZ6 => ?_)
      refine o_fld (off := 3) rfl rfl ?_
      refine o_st (v := iv (numZ cs (p + 1) 1)) rfl rfl rfl rfl hB6 (show 3 < 7 by decide) (fun w7 hB7 hK7 hZ7 => ?_)
      refine o_nil ?_
      refine k_blk ?_
      refine k_goal ⟨(), ⟨rfl, rfl, trivial⟩, OneR.of (xs := [iv p, iv 2, iv (opAt cs p), iv (numZ cs (p + 1) 1), iv 0, .slice none 0 0, .slice none 0 0]) (x := oneIs cs p (opAt cs p) 2) (hway 2 h (by decide)) hB7 ⟨_, _, rfl, GS.nil _ _, GS.nil _ _⟩ (Rdr.keep (Rdr.keep hR5 hK6 (by simpa using ⟨by omega, fun e => hrx e.symm⟩)) hK7 (by simpa using ⟨by omega, fun e => hrx e.symm⟩)) (by rw [show decide (oneOk cs p 2) = decide (p + 1 + 1 ≤ cs.length) from decide_eq_decide.2 (by simp only [oneOk] <;> omega)]; simp) (fun _ => rfl), ((((Keep.refl [r, xb] w4).trans hK5 (by simp)).trans hK6 (by simp)).trans hK7 (by simp))⟩
    have hn2 := h
    refine k_seq ?_
    refine k_region ?_
    refine v8_eql (b := 3#8) rfl rfl ?_
    refine m_bool rfl rfl ?_
    refine o_nil ?_
    refine k_cond rfl (fun h => ?_) (fun h => ?_)
    ·
      refine k_region ?_
      refine m_ptr rfl rfl ?_
      refine m_int rfl rfl ?_
      refine n_add rfl rfl (by omega) ?_
      refine o_call rfl rfl (num_ok k w4 r mm (p + 1) 1 cs _ hR4 (by omega) (by decide) (by decide)) (fun v w5 hv => ?_)
      obtain ⟨rfl, hR5, hK5, hZ5⟩ := hv
      have hlt5 := numZ_lt cs (p + 1) 1
      refine c_int rfl Try.underlying63 rfl ?_
      rw [sg_wrap8 _ (by omega)]
      have hsb5 : -32768 ≤ sg 8 (numZ cs (p + 1) 1) ∧ sg 8 (numZ cs (p + 1) 1) ≤ 32767 := by unfold sg; split <;> omega
      refine c_i64 rfl Try.underlying3 rfl (by omega) ?_
      refine o_fld (off := 1) rfl rfl ?_
      refine o_st (v := iv 2) rfl rfl rfl rfl (hX4.keep hK5 (by simpa using fun e => hrx e.symm)) (show 1 < 7 by decide) (fun w6 hB6 hK6 hZ6 => ?_)
      refine o_fld (off := 3) rfl rfl ?_
      refine o_st (v := iv (sg 8 (numZ cs (p + 1) 1))) rfl rfl rfl rfl hB6 (show 3 < 7 by decide) (fun w7 hB7 hK7 hZ7 => ?_)
      refine o_nil ?_
      refine k_blk ?_
      refine k_goal ⟨(), ⟨rfl, rfl, trivial⟩, OneR.of (xs := [iv p, iv 2, iv (opAt cs p), iv (sg 8 (numZ cs (p + 1) 1)), iv 0, .slice none 0 0, .slice none 0 0]) (x := oneIs cs p (opAt cs p) 3) (hway 3 h (by decide)) hB7 ⟨_, _, rfl, GS.nil _ _, GS.nil _ _⟩ (Rdr.keep (Rdr.keep hR5 hK6 (by simpa using ⟨by omega, fun e => hrx e.symm⟩)) hK7 (by simpa using ⟨by omega, fun e => hrx e.symm⟩)) (by rw [show decide (oneOk cs p 3) = decide (p + 1 + 1 ≤ cs.length) from decide_eq_decide.2 (by simp only [oneOk] <;> omega)]; simp) (fun _ => rfl), ((((Keep.refl [r, xb] w4).trans hK5 (by simp)).trans hK6 (by simp)).trans hK7 (by simp))⟩
    have hn3 := h
    refine k_seq ?_
    refine k_region ?_
    refine v8_eql (b := 4#8) rfl rfl ?_
    refine m_bool rfl rfl ?_
    refine o_nil ?_
    refine k_cond rfl (fun h => ?_) (fun h => ?_)
    ·
      refine k_region ?_
      refine m_ptr rfl rfl ?_
      refine m_int rfl rfl ?_
      refine n_add rfl rfl (by omega) ?_
      refine o_call rfl rfl (num_ok k w4 r mm (p + 1) 2 cs _ hR4 (by omega) (by decide) (by decide)) (fun v w5 hv => ?_)
      obtain ⟨rfl, hR5, hK5, hZ5⟩ := hv
      have hlt5 := numZ_lt cs (p + 1) 2
      refine o_fld (off := 1) rfl rfl ?_
      refine o_st (v := iv 3) rfl rfl rfl rfl (hX4.keep hK5 (by simpa using fun e => hrx e.symm)) (show 1 < 7 by decide) (fun w6 hB6 hK6 hZ6 => ?_)
      refine o_fld (off := 3) rfl rfl ?_
      refine o_st (v := iv (numZ cs (p + 1) 2)) rfl rfl rfl rfl hB6 (show 3 < 7 by decide) (fun w7 hB7 hK7 hZ7 => ?_)
      refine o_nil ?_
      refine k_blk ?_
      refine k_goal ⟨(), ⟨rfl, rfl, trivial⟩, OneR.of (xs := [iv p, iv 3, iv (opAt cs p), iv (numZ cs (p + 1) 2), iv 0, .slice none 0 0, .slice none 0 0]) (x := oneIs cs p (opAt cs p) 4) (hway 4 h (by decide)) hB7 ⟨_, _, rfl, GS.nil _ _, GS.nil _ _⟩ (Rdr.keep (Rdr.keep hR5 hK6 (by simpa using ⟨by omega, fun e => hrx e.symm⟩)) hK7 (by simpa using ⟨by omega, fun e => hrx e.symm⟩)) (by rw [show decide (oneOk cs p 4) = decide (p + 1 + 2 ≤ cs.length) from decide_eq_decide.2 (by simp only [oneOk] <;> omega)]; simp) (fun _ => rfl), ((((Keep.refl [r, xb] w4).trans hK5 (by simp)).trans hK6 (by simp)).trans hK7 (by simp))⟩
    have hn4 := h
    refine k_seq ?_
    refine k_region ?_
    refine v8_eql (b := 5#8) rfl rfl ?_
    refine m_bool rfl rfl ?_
    refine o_nil ?_
    refine k_cond rfl (fun h => ?_) (fun h => ?_)
    ·
      refine k_region ?_
      refine m_ptr rfl rfl ?_
      refine m_int rfl rfl ?_
      refine n_add rfl rfl (by omega) ?_
      refine o_call rfl rfl (num_ok k w4 r mm (p + 1) 2 cs _ hR4 (by omega) (by decide) (by decide)) (fun v w5 hv => ?_)
      obtain ⟨rfl, hR5, hK5, hZ5⟩ := hv
      have hlt5 := numZ_lt cs (p + 1) 2
      refine c_int rfl Try.underlying64 rfl ?_
      rw [sg_wrap16 _ (by omega)]
      have hsb5 : -32768 ≤ sg 16 (numZ cs (p + 1) 2) ∧ sg 16 (numZ cs (p + 1) 2) ≤ 32767 := by unfold sg; split <;> omega
      refine c_i64 rfl Try.underlying3 rfl (by omega) ?_
      refine o_fld (off := 1) rfl rfl ?_
      refine o_st (v := iv 3) rfl rfl rfl rfl (hX4.keep hK5 (by simpa using fun e => hrx e.symm)) (show 1 < 7 by decide) (fun w6 hB6 hK6 hZ6 => ?_)
      refine o_fld (off := 3) rfl rfl ?_
      refine o_st (v := iv (sg 16 (numZ cs (p + 1) 2))) rfl rfl rfl rfl hB6 (show 3 < 7 by decide) (fun w7 hB7 hK7 hZ7 => ?_)
      refine o_nil ?_
      refine k_blk ?_
      refine k_goal ⟨(), ⟨rfl, rfl, trivial⟩, OneR.of (xs := [iv p, iv 3, iv (opAt cs p), iv (sg 16 (numZ cs (p + 1) 2)), iv 0, .slice none 0 0, .slice none 0 0]) (x := oneIs cs p (opAt cs p) 5) (hway 5 h (by decide)) hB7 ⟨_, _, rfl, GS.nil _ _, GS.nil _ _⟩ (Rdr.keep (Rdr.keep hR5 hK6 (by simpa using ⟨by omega, fun e => hrx e.symm⟩)) hK7 (by simpa using ⟨by omega, fun e => hrx e.symm⟩)) (by rw [show decide (oneOk cs p 5) = decide (p + 1 + 2 ≤ cs.length) from decide_eq_decide.2 (by simp only [oneOk] <;> omega)]; simp) (fun _ => rfl), ((((Keep.refl [r, xb] w4).trans hK5 (by simp)).trans hK6 (by simp)).trans hK7 (by simp))⟩
    have hn5 := h
    refine k_seq ?_
    refine k_region ?_
    refine v8_eql (b := 6#8) rfl rfl ?_
    refine m_bool rfl rfl ?_
    refine o_nil ?_
    refine k_cond rfl (fun h => ?_) (fun h => ?_)
    ·
      refine k_region ?_
      refine m_ptr rfl rfl ?_
      refine m_int rfl rfl ?_
      refine n_add rfl rfl (by omega) ?_
      refine o_call rfl rfl (num_ok k w4 r mm (p + 1) 1 cs _ hR4 (by omega) (by decide) (by decide)) (fun v w5 hv => ?_)
      obtain ⟨rfl, hR5, hK5, hZ5⟩ := hv
      have hlt5 := numZ_lt cs (p + 1) 1
      refine m_ptr rfl rfl ?_
      refine m_int rfl rfl ?_
      refine n_add rfl rfl (by omega) ?_
      refine o_call rfl rfl (num_ok k w5 r mm (p + 2) 1 cs _ hR5 (by omega) (by decide) (by decide)) (fun v w6 hv => ?_)
      obtain ⟨rfl, hR6, hK6, hZ6⟩ := hv
      have hlt6 := numZ_lt cs (p + 2) 1
      refine c_int rfl Try.underlying63 rfl ?_
      rw [sg_wrap8 _ (by omega)]
      have hsb6 : -32768 ≤ sg 8 (numZ cs (p + 2) 1) ∧ sg 8 (numZ cs (p + 2) 1) ≤ 32767 := by unfold sg; split <;> omega
      refine c_i64 rfl Try.underlying3 rfl (by omega) ?_
      refine o_fld (off := 1) rfl rfl ?_
      refine o_st (v := iv 3) rfl rfl rfl rfl ((hX4.keep hK5 (by simpa using fun e => hrx e.symm)).keep hK6 (by simpa using fun e => hrx e.symm)) (show 1 < 7 by decide) (fun w7 hB7 hK7 hZ7 => ?_)
      refine o_fld (off := 3) rfl rfl ?_
      refine o_st (v := iv (numZ cs (p + 1) 1)) rfl rfl rfl rfl hB7 (show 3 < 7 by decide) (fun w8 hB8 hK8 hZ8 => ?_)
      refine o_fld (off := 4) rfl rfl ?_
      refine o_st (v := iv (sg 8 (numZ cs (p + 2) 1))) rfl rfl rfl rfl hB8 (show 4 < 7 by decide) (fun w9 hB9 hK9 hZ9 => ?_)
      refine o_nil ?_
      refine k_blk ?_
      refine k_goal ⟨(), ⟨rfl, rfl, trivial⟩, OneR.of (xs := [iv p, iv 3, iv (opAt cs p), iv (numZ cs (p + 1) 1), iv (sg 8 (numZ cs (p + 2) 1)), .slice none 0 0, .slice none 0 0]) (x := oneIs cs p (opAt cs p) 6) (hway 6 h (by decide)) hB9 ⟨_, _, rfl, GS.nil _ _, GS.nil _ _⟩ (Rdr.keep (Rdr.keep (Rdr.keep hR6 hK7 (by simpa using ⟨by omega, fun e => hrx e.symm⟩)) hK8 (by simpa using ⟨by omega, fun e => hrx e.symm⟩)) hK9 (by simpa using ⟨by omega, fun e => hrx e.symm⟩)) (by rw [show decide (oneOk cs p 6) = decide (p + 1 + 1 ≤ cs.length ∧ p + 2 + 1 ≤ cs.length) from decide_eq_decide.2 (by simp only [oneOk] <;> omega)]; simp) (fun _ => rfl), ((((((Keep.refl [r, xb] w4).trans hK5 (by simp)).trans hK6 (by simp)).trans hK7 (by simp)).trans hK8 (by simp)).trans hK9 (by simp))⟩
    have hn6 := h
    refine k_seq ?_
    refine k_region ?_
    refine v8_eql (b := 7#8) rfl rfl ?_
    refine m_bool rfl rfl ?_
    refine o_nil ?_
    refine k_cond rfl (fun h => ?_) (fun h => ?_)
    ·
      refine k_region ?_
      refine m_int rfl rfl ?_
      refine m_ptr rfl rfl ?_
      refine m_int rfl rfl ?_
      refine n_add rfl rfl (by omega) ?_
      refine o_call rfl rfl (num_ok k w4 r mm (p + 1) 2 cs _ hR4 (by omega) (by decide) (by decide)) (fun v w5 hv => ?_)
      obtain ⟨rfl, hR5, hK5, hZ5⟩ := hv
      have hlt5 := numZ_lt cs (p + 1) 2
      refine c_int rfl Try.underlying64 rfl ?_
      rw [sg_wrap16 _ (by omega)]
      have hsb5 : -32768 ≤ sg 16 (numZ cs (p + 1) 2) ∧ sg 16 (numZ cs (p + 1) 2) ≤ 32767 := by unfold sg; split <;> omega
      refine c_i64 rfl Try.underlying3 rfl (by omega) ?_
      refine n_add rfl rfl (by omega) ?_
      refine o_bsl (E := 3) (cs := #[iv ((p : Int) + sg 16 (numZ cs (p + 1) 2))]) rfl (fun _ => by kernel_rfl) (fun g w6 hBg hK6 hbg hZ6 => ?_)
      refine o_fld (off := 1) rfl rfl ?_
      refine o_st (v := iv 3) rfl rfl rfl rfl ((hX4.keep hK5 (by simpa using fun e => hrx e.symm)).keep hK6 (by simp)) (show 1 < 7 by decide) (fun w7 hB7 hK7 hZ7 => ?_)
      refine o_fld (off := 6) rfl rfl ?_
      refine o_st (v := .slice (some ⟨g, 0, none⟩) 1 1) rfl rfl rfl rfl hB7 (show 6 < 7 by decide) (fun w8 hB8 hK8 hZ8 => ?_)
      refine o_nil ?_
      refine k_blk ?_
      refine k_goal ⟨(), ⟨rfl, rfl, trivial⟩, OneR.of (xs := [iv p, iv 3, iv (opAt cs p), iv 0, iv 0, .slice none 0 0, .slice (some ⟨g, 0, none⟩) 1 1]) (x := oneIs cs p (opAt cs p) 7) (hway 7 h (by decide)) hB8 ⟨_, _, rfl, GS.nil _ _, ?_⟩ (Rdr.keep (Rdr.keep (hR5.keep hK6 (by simp)) hK7 (by simpa using ⟨by omega, fun e => hrx e.symm⟩)) hK8 (by simpa using ⟨by omega, fun e => hrx e.symm⟩)) (by rw [show decide (oneOk cs p 7) = decide (p + 1 + 2 ≤ cs.length) from decide_eq_decide.2 (by simp only [oneOk] <;> omega)]; simp) (fun _ => rfl), (((((Keep.refl [r, xb] w4).trans hK5 (by simp)).trans hK6 (by simp)).trans hK7 (by simp)).trans hK8 (by simp))⟩
      refine ⟨some ⟨g, 0, none⟩, 1, rfl, ?_, fun z hz => by cases hz; have := hK4.size; simp only; omega⟩
      have hs : Sl w6 3 1 (some ⟨g, 0, none⟩) 1 1 [iv ((p : Int) + sg 16 (numZ cs (p + 1) 2))] := hBg.sl rfl (by decide)
      exact (hs.keep hK7 (fun z hz hm => by cases hz; simp at hm; have := hX4.lt; omega)).keep hK8 (fun z hz hm => by cases hz; simp at hm; have := hX4.lt; omega)
    have hn7 := h
    refine k_seq ?_
    refine k_region ?_
    refine v8_eql (b := 10#8) rfl rfl ?_
    refine m_bool rfl rfl ?_
    refine o_nil ?_
    refine k_cond rfl (fun h => ?_) (fun h => ?_)
    ·
      have h99 := h
      refine k_seq ?_
      refine k_region ?_
      refine m_ptr rfl rfl ?_
      refine m_int rfl rfl ?_
      refine n_add rfl rfl (by omega) ?_
      refine o_call rfl rfl (num_ok k w4 r mm (p + 1) 2 cs _ hR4 (by omega) (by decide) (by decide)) (fun v w5 hv => ?_)
      obtain ⟨rfl, hR5, hK5, hZ5⟩ := hv
      have hlt5 := numZ_lt cs (p + 1) 2
      refine m_ptr rfl rfl ?_
      refine m_int rfl rfl ?_
      refine n_add rfl rfl (by omega) ?_
      refine o_call rfl rfl (num_ok k w5 r mm (p + 3) 1 cs _ hR5 (by omega) (by decide) (by decide)) (fun v w6 hv => ?_)
      obtain ⟨rfl, hR6, hK6, hZ6⟩ := hv
      have hlt6 := numZ_lt cs (p + 3) 1
      refine o_fld (off := 1) rfl rfl ?_
      refine o_st (v := iv 5) rfl rfl rfl rfl ((hX4.keep hK5 (by simpa using fun e => hrx e.symm)).keep hK6 (by simpa using fun e => hrx e.symm)) (show 1 < 7 by decide) (fun w7 hB7 hK7 hZ7 => ?_)
      refine o_fld (off := 3) rfl rfl ?_
      refine o_st (v := iv (numZ cs (p + 1) 2)) rfl rfl rfl rfl hB7 (show 3 < 7 by decide) (fun w8 hB8 hK8 hZ8 => ?_)
      refine o_fld (off := 4) rfl rfl ?_
      refine o_st (v := iv (numZ cs (p + 3) 1)) rfl rfl rfl rfl hB8 (show 4 < 7 by decide) (fun w9 hB9 hK9 hZ9 => ?_)
      refine o_nil ?_
      refine k_seq ?_
      refine k_region ?_
      refine m_ptr rfl rfl ?_
      refine m_int rfl rfl ?_
      refine n_add rfl rfl (by omega) ?_
      refine o_call rfl rfl (num_ok k w9 r mm (p + 4) 1 cs _ (Rdr.keep (Rdr.keep (Rdr.keep hR6 hK7 (by simpa using ⟨by omega, fun e => hrx e.symm⟩)) hK8 (by simpa using ⟨by omega, fun e => hrx e.symm⟩)) hK9 (by simpa using ⟨by omega, fun e => hrx e.symm⟩)) (by omega) (by decide) (by decide)) (fun v w10 hv => ?_)
      obtain ⟨rfl, hR10, hK10, hZ10⟩ := hv
      have hX10 := hB9.keep hK10 (by simpa using fun e => hrx e.symm)
      have hKK := ((((((Keep.refl [r, xb] w4).trans hK5 (by simp)).trans hK6 (by simp)).trans hK7 (by simp)).trans hK8 (by simp)).trans hK9 (by simp)).trans hK10 (by simp)
      refine b_neq rfl rfl ?_
      refine o_nil ?_
      refine k_cond rfl (fun h => ?_) (fun h => ?_)
      ·
        refine k_region ?_
        refine m_ptr rfl rfl ?_
        refine o_nilc rfl ?_
        refine o_fld (off := 2) rfl rfl ?_
        obtain ⟨a9, c9, hB9, hR9, h39, h49, h59⟩ := hR10
        refine o_st (v := .bool true) rfl rfl rfl rfl hB9 (show 2 < 3 by decide) (fun w20 hB20 hK20 hZ20 => ?_)
        refine o_nil ?_
        refine k_blk ?_
        refine k_goal ⟨(), ⟨rfl, rfl, trivial⟩, OneR.of (xs := [iv p, iv 5, iv (opAt cs p), iv (numZ cs (p + 1) 2), iv (numZ cs (p + 3) 1), .slice none 0 0, .slice none 0 0]) (x := oneIs cs p (opAt cs p) 10) (hway 10 h99 (by decide)) (hX10.keep hK20 (by simpa using fun e => hrx e.symm)) ⟨_, _, rfl, GS.nil _ _, GS.nil _ _⟩ (Rdr.set hR9 h39 h49 h59 hK20 hB20) (by rw [decide_eq_false (show ¬ oneOk cs p 10 from fun hh => h (by simpa using hh.2))]; rfl) (fun _ => rfl), hKK.trans hK20 (by simp)⟩
      refine k_skip ?_
      refine k_blk ?_
      refine k_goal ⟨(), ⟨rfl, rfl, trivial⟩, OneR.of (xs := [iv p, iv 5, iv (opAt cs p), iv (numZ cs (p + 1) 2), iv (numZ cs (p + 3) 1), .slice none 0 0, .slice none 0 0]) (x := oneIs cs p (opAt cs p) 10) (hway 10 h99 (by decide)) hX10 ⟨_, _, rfl, GS.nil _ _, GS.nil _ _⟩ hR10 (by rw [show decide (oneOk cs p 10) = decide (p + 1 + 2 ≤ cs.length ∧ p + 3 + 1 ≤ cs.length ∧ p + 4 + 1 ≤ cs.length) from decide_eq_decide.2 (by simp only [oneOk] <;> omega)]; simp [Bool.or_assoc]) (fun _ => rfl), hKK⟩
    have hn10 := h
    refine k_seq ?_
    refine k_seq ?_
    refine k_region ?_
    refine v8_eql (b := 8#8) rfl rfl ?_
    refine m_bool rfl rfl ?_
    refine o_nil ?_
    refine k_cut (σ := Unit) (fun _ => [(0, .pointer (some ⟨r, 0, none⟩)), (1, .int .i64 (p : Int)), (4, .pointer (some ⟨b4, 0, none⟩)), (5, .pointer (some ⟨xb, 0, none⟩)), (6, .int .u8 (f.toNat : Int)), (120, .bool (decide (f = 8#8 ∨ f = 9#8)))]) (fun _ w' => w' = w4) ?_ (fun _ e w' hJ => ?_)
    ·
      refine k_cond rfl (fun h => ?_) (fun h => ?_)
      ·
        refine k_skip ?_
        refine k_goal ⟨(), ⟨rfl, rfl, rfl, rfl, rfl, congrArg Value.bool (decide_eq_decide.2 ⟨.inl, fun _ => h⟩), trivial⟩, rfl⟩
      refine k_region ?_
      refine v8_eql (b := 9#8) rfl rfl ?_
      refine m_bool rfl rfl ?_
      refine o_nil ?_
      refine k_goal ⟨(), ⟨rfl, rfl, rfl, rfl, rfl, congrArg Value.bool (decide_eq_decide.2 ⟨.inr, fun hh => hh.resolve_left h⟩), trivial⟩, rfl⟩
    subst hJ
    refine k_cond rfl (fun h => ?_) (fun h => ?_)
    ·
      refine k_region ?_
      refine m_ptr rfl rfl ?_
      refine m_int rfl rfl ?_
      refine m_ptr rfl rfl ?_
      refine m_int rfl rfl ?_
      refine n_add rfl rfl (by omega) ?_
      refine o_call rfl rfl (pad_ok k w' r mm (p + 1) cs false hR4 (by omega)) (fun v w5 hv => ?_)
      obtain ⟨rfl, hR5, hK5, hZ5⟩ := hv
      have hX5 := hX4.keep hK5 (by simpa using fun e => hrx e.symm)
      have hu1 := up4_ge (p + 1)
      have hu2 := up4_lt (p + 1)
      have hs4 := hK4.size
      refine o_call rfl rfl (keys_ok k w5 r mm xb p (up4 (p + 1)) (opAt cs p) cs _ f h hR5 hX5 (by omega) (by omega) (by omega) (by omega)) (fun v w6 hv => ?_)
      obtain ⟨en, ks, js, fl', rfl, hen, hSw, hK6, ht, hf⟩ := hv
      obtain ⟨ak, ck, aj, cj, hX6, hKs6, hJs6, hO6, hbk6, hbj6, hR6⟩ := hSw
      refine m_int rfl rfl ?_
      refine n_sub rfl rfl (by omega) ?_
      refine o_fld (off := 1) rfl rfl ?_
      refine o_st (v := iv ((en : Int) - p)) rfl rfl rfl rfl hX6 (show 1 < 7 by decide) (fun w7 hB7 hK7 hZ7 => ?_)
      refine o_nil ?_
      refine k_blk ?_
      have hw : ∃ n, wayOf (opAt cs p) = n ∧ f.toNat = n ∧ (n = 8 ∨ n = 9) ∧ (oneOk cs p n ↔ zer cs (p + 1) (up4 (p + 1) - (p + 1)) = true ∧ swOk cs (up4 (p + 1)) n) ∧ (swIs cs p (up4 (p + 1)) n).1 ≥ p ∧ oneIs cs p (opAt cs p) n = ⟨p, ((swIs cs p (up4 (p + 1)) n).1 - p : Nat), opAt cs p, 0, 0, (swIs cs p (up4 (p + 1)) n).2.1, (swIs cs p (up4 (p + 1)) n).2.2⟩ := by
       rcases h with h | h
       · exact ⟨8, hway 8 h (by decide), by rw [h]; rfl, .inl rfl, Iff.rfl, by simp only [swIs]; omega, rfl⟩
       · exact ⟨9, hway 9 h (by decide), by rw [h]; rfl, .inr rfl, Iff.rfl, by simp only [swIs]; omega, rfl⟩
      obtain ⟨n, hW, hfn', hn89, hokn, hge, his⟩ := hw
      rw [hfn'] at ht hf
      refine k_goal ⟨(), ⟨rfl, rfl, trivial⟩, OneR.of (xs := [iv p, iv ((en : Int) - p), iv (opAt cs p), iv 0, iv 0, .slice ak ks.length ck, .slice aj js.length cj]) (x := ⟨p, (en : Int) - p, opAt cs p, 0, 0, ks, js⟩) (fl' := fl') hW hB7 ⟨_, _, rfl, ⟨_, _, rfl, hKs6.keep hK7 (off_blk fun b' hb' hm => ?_), fun z hz => by have := hbk6 z hz; omega⟩, ⟨_, _, rfl, hJs6.keep hK7 (off_blk fun b' hb' hm => ?_), fun z hz => by have := hbj6 z hz; omega⟩⟩ (hR6.keep hK7 (by simpa using ⟨by omega, fun e => hrx e.symm⟩)) ?_ ?_, ((Keep.refl [r, xb] w').trans hK5 (by simp)).trans (hK6.trans hK7 (by simp)) (fun _ h _ => h)⟩
      · simp at hm; subst hm; exact hKs6.notin hX6 (by decide) hb'
      · simp at hm; subst hm; exact hJs6.notin hX6 (by decide) hb'
      · cases fl' with
        | true =>
          rw [decide_eq_false]; rfl
          intro hh
          have h1 := hokn.1 hh
          rcases ht rfl with h2 | h2
          · rw [h1.1] at h2; cases h2
          · exact h2 h1.2
        | false =>
          obtain ⟨h1, h2, _⟩ := hf rfl
          rw [decide_eq_true (hokn.2 ⟨by simpa using h1, h2⟩)]; rfl
      · intro hh
        have h1 := hokn.1 hh
        cases fl' with
        | true =>
          rcases ht rfl with h2 | h2
          · rw [h1.1] at h2; cases h2
          · exact absurd h1.2 h2
        | false =>
          obtain ⟨_, _, h3⟩ := hf rfl
          rw [his, ← h3]
          rw [← h3] at hge
          simp only at hge ⊢
          rw [Int.ofNat_sub hge]
    refine k_region ?_
    refine m_ptr rfl rfl ?_
    refine o_nilc rfl ?_
    refine o_fld (off := 2) rfl rfl ?_
    obtain ⟨a9, c9, hB9, hR9, h39, h49, h59⟩ := hR4
    refine o_st (v := .bool true) rfl rfl rfl rfl hB9 (show 2 < 3 by decide) (fun w20 hB20 hK20 hZ20 => ?_)
    refine o_nil ?_
    refine k_blk ?_
    have hz : wayOf (opAt cs p) = 0 := by
     have hne : ∀ n, n ≤ 10 → f ≠ BitVec.ofNat 8 n → wayOf (opAt cs p) ≠ n := fun n hn hh e => hh (by rw [hfd, e])
     have h1 := hne 1 (by decide) hn1
     have h2 := hne 2 (by decide) hn2
     have h3 := hne 3 (by decide) hn3
     have h4 := hne 4 (by decide) hn4
     have h5 := hne 5 (by decide) hn5
     have h6 := hne 6 (by decide) hn6
     have h7 := hne 7 (by decide) hn7
     have h10 := hne 10 (by decide) hn10
     have h8 := hne 8 (by decide) (fun e => h (.inl e))
     have h9 := hne 9 (by decide) (fun e => h (.inr e))
     omega
    refine k_goal ⟨(), ⟨rfl, rfl, trivial⟩, OneR.of (xs := [iv p, iv 1, iv (opAt cs p), iv 0, iv 0, .slice none 0 0, .slice none 0 0]) (x := oneIs cs p (opAt cs p) 0) hz (hX4.keep hK20 (by simpa using fun e => hrx e.symm)) ⟨_, _, rfl, GS.nil _ _, GS.nil _ _⟩ (Rdr.set hR9 h39 h49 h59 hK20 hB20) (by rw [decide_eq_false (show ¬ oneOk cs p 0 from id)]; rfl) (fun _ => rfl), (Keep.refl _ _).trans hK20 (by simp)⟩
  obtain ⟨⟨xs, x, fl', hBx, hix, hRx, htx, hfx⟩, hKx⟩ := hJ
  have hb4x : b4 ≠ xb := by omega
  have hB4x := hB44.keep hKx (by simp; omega)
  have hl7 := hix.len
  refine k_seq ?_
  refine k_region ?_
  refine o_lda (xs := xs) rfl rfl (by rw [hl7]; rfl) (fun j v hv => by rw [Nat.zero_add]; exact hBx.at (by simpa using hv)) ?_
  refine o_sta (xs := xs) rfl rfl (by rw [hl7]; rfl) hix.one hB4x (by rw [hl7]; exact Nat.le_refl 7) (fun w9 hB9 hK9 hZ9 => ?_)
  refine o_nil ?_
  have hB9' : Blk w9 b4 (([] ++ xs) ++ []).toArray 38 := by rw [hl7] at hB9; exact hB9
  rw [List.nil_append, List.append_nil] at hB9'
  refine k_ret (ret_cell0 (b := b4) (xs := xs) rfl rfl rfl (by rw [hl7]; rfl) (fun j v hv => hB9'.at (by simpa using hv)) ?_)
  refine ⟨fl', xs, x, rfl, hix.mono (fun v l hv => hv.keep hK9 (fun b' hb' => .inr fun cs' hB' => ?_)), hRx.keep hK9 (by simpa using ⟨by omega, by omega⟩), ?_, htx, hfx⟩
  · simp at hb'
    subst hb'
    exact absurd (hB'.ty hB4x) (by decide)
  · exact (hK4.also.trans hKx (fun b' hb' hl => by simp at hb' ⊢; omega)).trans hK9 (by simp; omega)
end Go.Proofs.Ytmdkinedbmjieaa
