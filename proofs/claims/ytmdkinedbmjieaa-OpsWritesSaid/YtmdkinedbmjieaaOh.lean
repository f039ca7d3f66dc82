/- Ops: PutBig and writer.put. No condition beyond what each contract names. -/
import Derived.Test.YtmdkinedbmjieaaOg
namespace Go.Proofs.Ytmdkinedbmjieaa
open Go.RowKit E
set_option linter.unusedVariables false
set_option linter.unusedSimpArgs false
set_option maxRecDepth 100000
attribute [local irreducible] ow qw kw kq cw opW Ret
/-- a number's bytes, the greatest first -/
def bigB (n : Nat) (v : Int) : Bs := (List.range n).map fun j => ((BitVec.ofInt 64 v) >>> (8 * (n - 1 - j))).setWidth 8
theorem bigB_len (n : Nat) (v : Int) : (bigB n v).length = n := by simp [bigB]
def bigP (n i : Nat) (v : Int) : Bs := (List.range n).map fun j => if n - i ≤ j then ((BitVec.ofInt 64 v) >>> (8 * (n - 1 - j))).setWidth 8 else 0#8
theorem bigP_zero (n : Nat) (v : Int) : bigP n 0 v = List.replicate n 0#8 := by
  apply List.ext_getElem
  · simp [bigP]
  · intro j h1 h2
    simp [bigP] at h1 ⊢
    intro h; omega
theorem bigP_end (n : Nat) (v : Int) : bigP n n v = bigB n v := by
  apply List.ext_getElem
  · simp [bigP, bigB]
  · intro j h1 h2
    simp [bigP, bigB]
theorem bigP_set (n i : Nat) (v : Int) (h : i < n) : (bigP n i v).set (n - 1 - i) (((BitVec.ofInt 64 v) >>> (8 * i)).setWidth 8) = bigP n (i + 1) v := by
  apply List.ext_getElem
  · simp [bigP]
  · intro j h1 h2
    simp [bigP] at h1
    rw [List.getElem_set]
    by_cases hj : n - 1 - i = j
    · subst hj
      rw [if_pos rfl]
      simp only [bigP, List.getElem_map, List.getElem_range]
      rw [if_pos (by omega), show n - 1 - (n - 1 - i) = i by omega]
    · rw [if_neg hj]
      simp only [bigP, List.getElem_map, List.getElem_range]
      by_cases hc : n - i ≤ j
      · rw [if_pos hc, if_pos (by omega)]
      · rw [if_neg hc, if_neg (by omega)]
theorem putBig_ok (w : World) (n : Nat) (v : Int) (h1 : 1 ≤ n) (h8 : n ≤ 8) :
    Ret Try.prog 35 [.int .i64 (n : Int), .int .i64 v] w (fun u w' => New w w' 5 u ((bigB n v).map u8v) ∧ Keep [] w w') := by
  refine fn_enter (n := 35) Try.func35 rfl rfl (Nat.le_of_ble_eq_true rfl) (fun e => ?_)
  refine k_seq ?_
  refine k_region ?_
  refine m_sl rfl rfl ?_
  refine o_nil ?_
  refine k_seq ?_
  refine k_seq ?_
  refine k_region ?_
  refine m_int rfl rfl ?_
  refine b_lss rfl rfl ?_
  refine m_bool rfl rfl ?_
  refine o_false (t := 9) rfl ((by omega)) ?_
  refine g_yes rfl rfl ?_
  refine m_int rfl rfl ?_
  refine g_yes rfl rfl ?_
  refine b_gtr rfl rfl ?_
  refine pick_f rfl rfl ?_
  refine o_nil ?_
  refine k_no rfl ((by omega)) ?_
  refine k_skip ?_
  refine k_seq ?_
  refine k_region ?_
  refine m_int rfl rfl ?_
  refine o_make Try.underlying22 inf5 rfl rfl (by simp [maxLen]; omega) (by omega) (fun g w1 hS1 hK1 hb1 hZ1 => ?_)
  have hS1' : Sl w1 5 1 (some ⟨g, 0, none⟩) n n ((bigP n 0 v).map u8v) := by
   rw [bigP_zero, List.map_replicate]
   have he : (madeCells (Value.int .u8 0).cells (n * 1)).toList = List.replicate n (u8v 0#8) := by
    rw [Nat.mul_one]
    simp only [madeCells, u8v, Value.cells]
    apply List.ext_getElem
    · simp
    · intro j h1 h2
      simp [Nat.mod_one]
   rw [← he]; exact hS1
  refine m_sl rfl rfl ?_
  refine o_nil ?_
  refine k_seq ?_
  refine k_seq ?_
  refine k_region ?_
  refine m_sl rfl rfl ?_
  refine o_lens Try.underlying22 rfl ?_
  refine m_int rfl rfl ?_
  refine o_nil ?_
  refine k_block ?_
  refine k_loop (σ := Nat) (fun i => [(0, .int .i64 (n : Int)), (1, .int .i64 v), (5, .slice (some ⟨g, 0, none⟩) n n), (16, .int .i64 (n : Int)), (17, .int .i64 (i : Int))]) (fun i w' => i ≤ n ∧ Sl w' 5 1 (some ⟨g, 0, none⟩) n n ((bigP n i v).map u8v) ∧ Keep [] w w') (fun i => n - i) 0 ⟨rfl, rfl, rfl, rfl, rfl, trivial⟩ ⟨Nat.zero_le _, hS1', hK1⟩ (fun i e w2 hJ => ?_)
  obtain ⟨hi, hS2, hK2⟩ := hJ
  refine k_seq ?_
  refine k_region ?_
  refine b_lss rfl rfl ?_
  refine o_nil ?_
  refine k_seq ?_
  refine k_cond rfl (fun h => ?_) (fun h => ?_)
  rotate_left
  ·
    refine k_exit rfl ?_
    refine k_seq ?_
    refine k_region ?_
    refine m_sl rfl rfl ?_
    refine m_sl rfl rfl ?_
    refine o_nil ?_
    refine k_ret (ret_tmps (ts := [4]) (v := .slice _ _ _) rfl rfl ?_)
    have hie : i = n := by omega
    subst hie
    rw [bigP_end] at hS2
    refine ⟨⟨some ⟨g, 0, none⟩, i, ?_, ?_, fun q hq => by cases hq; simp only; omega⟩, hK2⟩
    · rw [List.length_map, bigB_len]
    · rw [List.length_map, bigB_len]; exact hS2
  have hin : i < n := by omega
  obtain ⟨g', cur, hg, hB2, hcs⟩ := hS2.blk (by omega)
  cases hg
  refine k_skip ?_
  refine k_seq ?_
  refine k_block ?_
  refine k_seq ?_
  refine k_region ?_
  refine m_int rfl rfl ?_
  refine m_int rfl rfl ?_
  refine o_nil ?_
  refine k_region ?_
  refine m_sl rfl rfl ?_
  refine m_int rfl rfl ?_
  refine n_sub rfl rfl (by omega) ?_
  refine m_int rfl rfl ?_
  refine n_sub rfl rfl (by omega) ?_
  rw [show (n : Int) - 1 - (i : Int) = ((n - 1 - i : Nat) : Int) by omega]
  refine m_int rfl rfl ?_
  refine cv64 rfl Try.underlying80 rfl ?_
  refine m_int rfl rfl ?_
  refine cv64 rfl Try.underlying53 rfl ?_
  refine v64_mul (a := 8#64) rfl rfl ?_
  rw [show ((8#64 * BitVec.ofInt 64 (i : Int)).toNat : Int) = ((8 * i : Nat) : Int) by rw [BitVec.toNat_mul, ofN i (by omega), show (8#64).toNat = 8 from rfl, Nat.mod_eq_of_lt (by omega)]]
  refine v64_shrn rfl rfl ?_
  refine cv64_8 rfl Try.underlying5 rfl ?_
  refine o_ixs1 Try.underlying22 rfl rfl rfl (by omega) ?_
  refine o_st (v := u8v (((BitVec.ofInt 64 v) >>> (8 * i)).setWidth 8)) rfl rfl rfl rfl hB2 (by omega) (fun w3 hB3 hK3 hZ3 => ?_)
  refine o_nil ?_
  refine k_blk ?_
  refine k_region ?_
  refine n_add rfl rfl (by omega) ?_
  refine m_int rfl rfl ?_
  refine o_nil ?_
  have hS3 := hS2.set (k := n - 1 - i) (by omega) hB2 hB3
  rw [← List.map_set, bigP_set n i v hin] at hS3
  refine k_goal ⟨i + 1, ⟨rfl, rfl, rfl, rfl, rfl, trivial⟩, ⟨by omega, hS3, hK2.trans hK3 (by simp; omega)⟩, by omega⟩
/-- a writer in memory -/
def Wr (H : Nat) (w : World) (wb : Nat) (bs : Bs) : Prop := ∃ a c, Blk w wb #[.slice a bs.length c] 52 ∧ Sl w 5 1 a bs.length c (bs.map u8v) ∧ (∀ z, a = some z → H ≤ z.block) ∧ H ≤ wb
theorem put_ok (H : Nat) (w : World) (wb n : Nat) (vv : Int) (bs : Bs) (h : Wr H w wb bs) (hH : H ≤ w.heap.size) (h1 : 1 ≤ n) (h8 : n ≤ 4) (hb : bs.length ≤ 100000) :
    Ret Try.prog 29 [.pointer (some ⟨wb, 0, none⟩), .int .i64 (n : Int), .int .i64 vv] w (fun u w' => u = .tuple #[] ∧ Wr H w' wb (bs ++ bigB n vv) ∧ KeepT [5, 52] H w w') := by
  obtain ⟨a, c, hB, hS, hf, hw⟩ := h
  have hwa : wb ∉ blkOf a := hS.notin hB (by decide)
  obtain ⟨S0, hS0⟩ : ∃ S0, S0 = w.heap.size := ⟨_, rfl⟩
  have hF1 : (fun w => Sl w 5 1 a bs.length c (bs.map u8v)) ∈ [fun w => Sl w 5 1 a bs.length c (bs.map u8v), fun w => Sl w 5 1 a (bs.length + n) c (bs.map u8v ++ (bigB n vv).map u8v)] := by simp
  have hF2 : (fun w => Sl w 5 1 a (bs.length + n) c (bs.map u8v ++ (bigB n vv).map u8v)) ∈ [fun w => Sl w 5 1 a bs.length c (bs.map u8v), fun w => Sl w 5 1 a (bs.length + n) c (bs.map u8v ++ (bigB n vv).map u8v)] := by simp
  have hlen := bigB_len n vv
  have hlt : ∀ b ∈ blkOf a, b < S0 := fun b hb => by
    cases a with
    | none => simp [blkOf] at hb
    | some z => simp [blkOf] at hb; subst hb; rw [hS0]; exact hS.lt z rfl
  have hnew : ∀ w1 w2, Keep [] w1 w2 → LeF (blkOf a) [fun w => Sl w 5 1 a bs.length c (bs.map u8v), fun w => Sl w 5 1 a (bs.length + n) c (bs.map u8v ++ (bigB n vv).map u8v)] w1 w2 := fun w1 w2 hk => ⟨hk.also, fun F hF h => by
    simp only [List.mem_cons, List.not_mem_nil, or_false] at hF
    rcases hF with rfl | rfl
    · exact Sl.new h hk
    · exact Sl.new h hk⟩
  refine fn_enter (n := 17) Try.func29 rfl rfl (Nat.le_of_ble_eq_true rfl) (fun e => ?_)
  refine k_anyG 9 (LeF (blkOf a) [fun w => Sl w 5 1 a bs.length c (bs.map u8v), fun w => Sl w 5 1 a (bs.length + n) c (bs.map u8v ++ (bigB n vv).map u8v)]) (fun iA => match iA with
      | 0 => fun v w => v = .pointer (some ⟨wb, 0, none⟩)
      | 1 => fun v w => v = .pointer (some ⟨wb, 0, none⟩)
      | 2 => fun v w => v = .pointer (some ⟨wb, 0, none⟩)
      | 3 => fun v w => v = .pointer (some ⟨wb, 0, none⟩)
      | 4 => fun v w => v = .slice a bs.length c
      | 5 => fun v w => v = .int .i64 (n : Int)
      | 6 => fun v w => v = .int .i64 vv
      | 7 => fun v w => ∃ a2 c2, v = .slice a2 n c2 ∧ Sl w 5 1 a2 n c2 ((bigB n vv).map u8v) ∧ ∀ z, a2 = some z → S0 ≤ z.block
      | 8 => fun v w => ∃ a2 c2, v = .slice a2 (bs.length + n) c2 ∧ Sl w 5 1 a2 (bs.length + n) c2 (bs.map u8v ++ (bigB n vv).map u8v) ∧ ((a2 = a ∧ c2 = c) ∨ ∃ g, a2 = some ⟨g, 0, none⟩ ∧ S0 ≤ g)
      | _ => fun v w => True) [] (fun _ _ => True) rfl rfl rfl rfl rfl (LeF.refl _ _) (fun _ _ _ h1 h2 => h1.tr h2) ?_ (fun _ h => by simp at h) (trivial) ?_ ?_
  · intro iA v w w' h hL
    match iA, h with
    | 0, h =>
      exact h
    | 1, h =>
      exact h
    | 2, h =>
      exact h
    | 3, h =>
      exact h
    | 4, h =>
      exact h
    | 5, h =>
      exact h
    | 6, h =>
      exact h
    | 7, h =>
      obtain ⟨a2, c2, h1, h2, h3⟩ := h
      exact ⟨a2, c2, h1, h2.keep hL.1 (fun z hz hm => by have := h3 z hz; have := hlt _ hm; omega), h3⟩
    | 8, h =>
      obtain ⟨a2, c2, h1, h2, h3⟩ := h
      refine ⟨a2, c2, h1, ?_, h3⟩
      rcases h3 with ⟨rfl, rfl⟩ | ⟨g, rfl, h5⟩
      · exact hL.2 _ hF2 h2
      · exact h2.keep hL.1 (fun z hz hm => by cases hz; have := hlt _ hm; simp only at this; omega)
    | _ + 9, h => trivial
  · intro iA o him hl D eA wA hDi hdp hSh hG hL hA hD
    match iA, him, hl with
    | 0, _, hl =>
      obtain rfl := Option.some.inj hl
      refine o_gen [(0, _)] ⟨hA 0 (free_of rfl), trivial⟩ (fun e2 => ?_)
      refine m_ptr rfl rfl ?_
      refine o_nil ⟨LeF.refl _ _ _, rfl, fun h => by simp at h, hG⟩
    | 1, _, hl =>
      obtain rfl := Option.some.inj hl
      refine o_gen [(0, _)] ⟨hA 0 (free_of rfl), trivial⟩ (fun e2 => ?_)
      refine m_ptr rfl rfl ?_
      refine o_nil ⟨LeF.refl _ _ _, rfl, fun h => by simp at h, hG⟩
    | 2, _, hl =>
      obtain rfl := Option.some.inj hl
      refine o_gen [(7, _)] ⟨hD 1 (by decide) 7 rfl, trivial⟩ (fun e2 => ?_)
      refine o_nilc rfl ?_
      refine o_nil ⟨LeF.refl _ _ _, rfl, fun h => by simp at h, hG⟩
    | 3, _, hl =>
      obtain rfl := Option.some.inj hl
      refine o_gen [(8, _)] ⟨hD 2 (by decide) 8 rfl, trivial⟩ (fun e2 => ?_)
      refine o_fld0 rfl rfl ?_
      refine o_nil ⟨LeF.refl _ _ _, rfl, fun h => by simp at h, hG⟩
    | 4, _, hl =>
      obtain rfl := Option.some.inj hl
      refine o_gen [(9, _)] ⟨hD 3 (by decide) 9 rfl, trivial⟩ (fun e2 => ?_)
      refine o_ld rfl rfl ((hB.keep ((Keep.refl (blkOf a) w).drew.trans hL.1 (fun _ h _ => h)) hwa).at rfl) ?_
      refine o_nil ⟨LeF.refl _ _ _, rfl, fun h => by simp at h, hG⟩
    | 5, _, hl =>
      obtain rfl := Option.some.inj hl
      refine o_gen [(1, _)] ⟨hA 1 (free_of rfl), trivial⟩ (fun e2 => ?_)
      refine m_int rfl rfl ?_
      refine o_nil ⟨LeF.refl _ _ _, rfl, fun h => by simp at h, hG⟩
    | 6, _, hl =>
      obtain rfl := Option.some.inj hl
      refine o_gen [(2, _)] ⟨hA 2 (free_of rfl), trivial⟩ (fun e2 => ?_)
      refine m_int rfl rfl ?_
      refine o_nil ⟨LeF.refl _ _ _, rfl, fun h => by simp at h, hG⟩
    | 7, _, hl =>
      obtain rfl := Option.some.inj hl
      refine o_gen [(11, _), (12, _)] ⟨hD 5 (by decide) 11 rfl, hD 6 (by decide) 12 rfl, trivial⟩ (fun e2 => ?_)
      refine o_call rfl rfl (putBig_ok _ n vv h1 (by omega)) (fun u w6 hv => ?_)
      obtain ⟨⟨a2, c2, rfl, hS6, hf6⟩, hK6⟩ := hv
      rw [List.length_map, hlen] at hS6
      refine o_nil ⟨hnew _ _ hK6, ⟨a2, c2, by rw [List.length_map, hlen]; rfl, hS6, fun z hz => by have := hf6 z hz; have := hL.1.size; have : w.drew.heap.size = w.heap.size := rfl; omega⟩, fun h => by simp at h, trivial⟩
    | 8, _, hl =>
      obtain rfl := Option.some.inj hl
      obtain ⟨a7, c7, h7, hS7, hf7⟩ := hD 7 (by decide) 13 rfl
      refine o_gen [(10, _), (13, _)] ⟨hD 4 (by decide) 10 rfl, h7, trivial⟩ (fun e2 => ?_)
      refine o_app2 Try.underlying22 inf5 rfl (by decide) rfl rfl (hL.2 _ hF1 hS) hS7.rd (by simp [hlen]) (u8_one _) (by simp [maxLen]; omega) (by omega) (fun a2 c2 w6 hS6 hv6 => ?_)
      have hsz := hL.1.size
      have hdr : w.drew.heap.size = w.heap.size := rfl
      rcases hv6 with ⟨rfl, rfl, hK6, hZ6⟩ | ⟨g6, rfl, hK6, hb6, hZ6⟩
      · refine o_nil ⟨⟨hK6, fun F hF h => ?_⟩, ⟨_, _, rfl, hS6, .inl ⟨rfl, rfl⟩⟩, fun h => by simp at h, trivial⟩
        simp only [List.mem_cons, List.not_mem_nil, or_false] at hF
        rcases hF with rfl | rfl
        · exact hS6.front (by simp) (by omega)
        · exact hS6
      · exact o_nil ⟨hnew _ _ hK6, ⟨_, _, rfl, hS6, .inr ⟨g6, rfl, by omega⟩⟩, fun h => by simp at h, trivial⟩
    | _ + 9, him, _ => exact absurd him (by omega)
  intro D eA wA hAll hG hL hA hV hN hM
  obtain ⟨a2, c2, ha2, hS2, hv2⟩ := hV 8 (by decide) 14 rfl
  refine o_gen [(6, .pointer (some ⟨wb, 0, none⟩)), (14, .slice a2 (bs.length + n) c2)] ⟨hV 0 (by decide) 6 rfl, ha2, trivial⟩ (fun e3 => ?_)
  have hKA : Keep (blkOf a) w wA := (Keep.refl (blkOf a) w).drew.trans hL.1 (fun _ h _ => h)
  have hBA := hB.keep hKA hwa
  refine o_nilc rfl ?_
  refine o_fld0 rfl rfl ?_
  refine o_st (v := .slice a2 (bs.length + n) c2) rfl rfl rfl rfl hBA (show 0 < 1 by decide) (fun w7 hB7 hK7 hZ7 => ?_)
  refine o_nil ?_
  refine k_end (end_tmps (ts := []) (v := .tuple #[]) rfl rfl ?_)
  have hl2 : (bs ++ bigB n vv).length = bs.length + n := by rw [List.length_append, hlen]
  refine ⟨rfl, ⟨a2, c2, ?_, ?_, ?_, hw⟩, blkOf a ++ [wb], (hKA.mono (by intro b hb; simp [hb])).trans hK7 (by simp), ?_⟩
  · rw [hl2]; exact hB7
  · rw [hl2, List.map_append]
    exact hS2.keep hK7 (hS2.off hBA (by decide))
  · rcases hv2 with ⟨rfl, rfl⟩ | ⟨g, rfl, hg⟩
    · exact hf
    · intro z hz; cases hz; simp only; omega
  · intro b hb
    rcases List.mem_append.1 hb with hb | hb
    · cases a with
      | none => simp [blkOf] at hb
      | some z =>
        obtain ⟨g, cur, hg, hBg, _⟩ : ∃ g cur, some z = some ⟨g, 0, none⟩ ∧ Blk w g cur 5 ∧ True := by
         rcases hS.2 with ⟨h0, _⟩ | ⟨g, cur, h0, hBg, _⟩
         · cases h0
         · exact ⟨g, cur, h0, hBg, trivial⟩
        simp [blkOf] at hb
        subst hb
        cases hg
        exact ⟨hf _ rfl, cur, 5, by simp, hBg⟩
    · simp at hb; subst hb; exact ⟨hw, _, 52, by simp, hB⟩
end Go.Proofs.Ytmdkinedbmjieaa
