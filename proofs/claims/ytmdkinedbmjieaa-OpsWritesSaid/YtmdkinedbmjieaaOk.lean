/- Ops: the walk of Write. No condition beyond what its contract names. -/
import Derived.Test.YtmdkinedbmjieaaOj
namespace Go.Proofs.Ytmdkinedbmjieaa
open Go.RowKit E
set_option linter.unusedVariables false
set_option linter.unusedSimpArgs false
set_option maxRecDepth 100000
attribute [local irreducible] ow qw kw kq cw opW Ret
def wrFrom (b : Bs) : List Ins → Option Bs
  | [] => some b
  | x :: l => if x.p = b.length ∧ 0 ≤ x.op ∧ x.op < 256 then
      (match wrOne b x (wayOf x.op.toNat) with
      | some b' => if b'.length ≤ 4096 then wrFrom b' l else none
      | none => none) else none
def wr (l : List Ins) : Option Bs := match wrFrom [] l with
  | none => none
  | some b => if rd b = some l then some b else none
def wrV (l : List Ins) : Bs := (wr l).getD []
def wrE (l : List Ins) : Int := if (wr l).isSome then 0 else 25
theorem wrFrom_no {b : Bs} {x : Ins} {l : List Ins} (h : ¬ (x.p = b.length ∧ 0 ≤ x.op ∧ x.op < 256)) : wrFrom b (x :: l) = none := if_neg h
theorem wrFrom_none {b : Bs} {x : Ins} {l : List Ins} (h : wrOne b x (wayOf x.op.toNat) = none) : wrFrom b (x :: l) = none := by
  unfold wrFrom; rw [h]; simp
theorem wrFrom_long {b b' : Bs} {x : Ins} {l : List Ins} (h : wrOne b x (wayOf x.op.toNat) = some b') (hl : ¬ b'.length ≤ 4096) : wrFrom b (x :: l) = none := by
  unfold wrFrom; rw [h]; simp [hl]
theorem wrFrom_some {b b' : Bs} {x : Ins} {l : List Ins} (h0 : x.p = b.length ∧ 0 ≤ x.op ∧ x.op < 256) (h : wrOne b x (wayOf x.op.toNat) = some b') (hl : b'.length ≤ 4096) : wrFrom b (x :: l) = wrFrom b' l := by
  conv => lhs; unfold wrFrom
  rw [if_pos h0, h]; simp [hl]
theorem wr_no {l : List Ins} (h : wr l = none) : wrV l = [] ∧ wrE l = 25 := by unfold wrV wrE; rw [h]; exact ⟨rfl, rfl⟩
theorem wr_yes {l : List Ins} {b : Bs} (h : wr l = some b) : wrV l = b ∧ wrE l = 0 := by unfold wrV wrE; rw [h]; exact ⟨rfl, rfl⟩
def WriteR (w : World) (l : List Ins) (v : Value) (w' : World) : Prop := ∃ a2 c2, v = .tuple #[.slice a2 (wrV l).length c2, .int .i64 (wrE l)] ∧ Sl w' 5 1 a2 (wrV l).length c2 ((wrV l).map u8v) ∧ (∀ z, a2 = some z → w.heap.size ≤ z.block) ∧ Keep [] w w'
theorem WriteR.no {w w' : World} {l : List Ins} (h : wr l = none) (hk : Keep [] w w') : WriteR w l (.tuple #[.slice none 0 0, .int .i64 25]) w' := by
  have := wr_no h
  refine ⟨none, 0, ?_, ?_, by simp, hk⟩
  · rw [this.1, this.2]; rfl
  · rw [this.1]; exact Sl.nil _ _ _
theorem op_in (v : Int) : v.fdiv (2 ^ 8) = 0 ↔ 0 ≤ v ∧ v < 256 := by
  rw [Int.fdiv_eq_ediv_of_nonneg _ (by decide)]
  omega
set_option maxHeartbeats 1000000 in
theorem write_ok (w : World) (a : Option Addr) (c : Nat) (vs : List Value) (l : List Ins) (hR : Rd w a vs) (hX : Rows (GR w) vs l) (hl : l.length ≤ 9223372036854775807) (hk : ∀ x ∈ l, x.keys.length ≤ 100000) :
    Ret Try.prog 14 [.slice a l.length c] w (WriteR w l) := by
  refine fn_enter (n := 91) Try.func14 rfl rfl (Nat.le_of_ble_eq_true rfl) (fun e => ?_)
  refine k_seq ?_
  refine k_region ?_
  refine m_sl rfl rfl ?_
  refine m_int rfl rfl ?_
  refine o_nil ?_
  refine k_seq ?_
  refine k_region ?_
  refine o_build (v := .agg #[.slice none 0 0]) rfl (fun _ => by kernel_rfl) ?_
  refine o_box rfl rfl (fun wb w1 hB1 hK1 hb1 hZ1 => ?_)
  refine o_call rfl rfl (forms_ok w1) (fun v w2 hv => ?_)
  obtain ⟨mm, rfl, hT2, hK2, hmm⟩ := hv
  have hK02 := hK1.tr hK2
  have hW2 : Wr w.heap.size w2 wb [] := ⟨none, 0, hB1.keep hK2 (by simp), Sl.nil _ _ _, by simp, by omega⟩
  refine m_ptr rfl rfl ?_
  refine m_map rfl rfl ?_
  refine o_nil ?_
  refine k_seq ?_
  refine k_seq ?_
  refine k_region ?_
  refine m_sl rfl rfl ?_
  refine o_lens Try.underlying24 rfl ?_
  refine m_int rfl rfl ?_
  refine o_nil ?_
  refine k_block ?_
  refine k_loop (σ := Nat) (fun i => [(0, .slice a l.length c), (4, .pointer (some ⟨wb, 0, none⟩)), (5, .map (some mm)), (14, .slice a l.length c), (15, .int .i64 (l.length : Int)), (16, .int .i64 (i : Int))]) (fun i w' => i ≤ l.length ∧ (∃ b, Wr w.heap.size w' wb b ∧ b.length ≤ 4096 ∧ wrFrom [] l = wrFrom b (l.drop i)) ∧ KeepT [5, 52] w.heap.size w2 w') (fun i => l.length - i) 0 ⟨rfl, rfl, rfl, rfl, rfl, rfl, trivial⟩ ⟨Nat.zero_le _, ⟨[], hW2, by simp, rfl⟩, (Keep.refl [] w2).t⟩ (fun i e w3 hJ => ?_)
  obtain ⟨hi, ⟨b, hW3, hb, hwf⟩, hT3⟩ := hJ
  have hK03 : Keep [] w w3 := hT3.below hK02 (Nat.le_refl _)
  refine k_seq ?_
  refine k_region ?_
  refine b_lss rfl rfl ?_
  refine o_nil ?_
  refine k_seq ?_
  refine k_cond rfl (fun h => ?_) (fun h => ?_)
  rotate_left
  ·
    have hwe : wrFrom [] l = some b := by rw [hwf, List.drop_of_length_le (by omega)]; rfl
    have hwr : wr l = if rd b = some l then some b else none := by unfold wr; rw [hwe]
    obtain ⟨a', c', hWB, hWS, hWf, _⟩ := hW3
    refine k_exit rfl ?_
    refine k_seq ?_
    refine k_region ?_
    refine m_ptr rfl rfl ?_
    refine o_nilc rfl ?_
    refine o_fld0 rfl rfl ?_
    refine o_ld (v := .slice a' b.length c') rfl rfl (hWB.at rfl) ?_
    refine o_call rfl rfl (read_ok w3 a' c' b hWS.rd hWS.le (by omega)) (fun v w6 hv => ?_)
    obtain ⟨a6, c6, vs6, rfl, hS6, hX6, hf6, hK6⟩ := hv
    have hK06 := hK03.tr hK6
    have hE : rdE b = 0 ∨ rdE b = 25 := by unfold rdE; rw [if_pos hb]; split <;> simp
    have hrd : rdE b = 0 → rd b = some (rdV b) := by
     unfold rdE rdV
     rw [if_pos hb, if_pos hb]
     cases hrb : rd b with
     | none => intro h; exact absurd h (by simp)
     | some y => intro _; rfl
    have hrn : rdE b ≠ 0 → rd b = none := by
     unfold rdE
     rw [if_pos hb]
     cases hrb : rd b with
     | none => intro _; rfl
     | some y => intro h; exact absurd h (by simp)
    refine m_any rfl rfl ?_
    refine o_extr rfl rfl ?_
    refine o_extr rfl rfl ?_
    refine m_sl rfl rfl ?_
    refine m_int rfl rfl ?_
    refine o_nil ?_
    refine k_seq ?_
    refine k_seq ?_
    refine k_region ?_
    refine m_int rfl rfl ?_
    refine b_neq rfl rfl ?_
    refine m_bool rfl rfl ?_
    refine o_split (t := 64) rfl (fun h => ?_) (fun h => ?_)
    ·
      refine g_no rfl rfl rfl ?_
      refine g_no rfl rfl rfl ?_
      refine g_no rfl rfl rfl ?_
      refine g_no rfl rfl rfl ?_
      refine g_no rfl rfl rfl ?_
      refine pick_t rfl rfl ?_
      refine o_nil ?_
      refine k_condt rfl ?_
      refine k_seq ?_
      refine k_region ?_
      refine m_sl rfl rfl ?_
      refine m_int rfl rfl ?_
      refine o_nil ?_
      refine k_ret (ret_tmps (ts := [2, 3]) (v := .tuple #[.slice _ _ _, .int _ _]) rfl rfl ?_)
      exact WriteR.no (by rw [hwr, hrn h]; rfl) hK06
    ·
      have h64 : rdE b = 0 := Decidable.of_not_not h
      have hrb := hrd h64
      refine g_yes rfl rfl ?_
      refine m_sl rfl rfl ?_
      refine g_yes rfl rfl ?_
      refine o_lens Try.underlying24 rfl ?_
      refine g_yes rfl rfl ?_
      refine m_sl rfl rfl ?_
      refine g_yes rfl rfl ?_
      refine o_lens Try.underlying24 rfl ?_
      refine g_yes rfl rfl ?_
      refine b_neq rfl rfl ?_
      refine pick_f rfl rfl ?_
      refine o_nil ?_
      refine k_cond rfl (fun h => ?_) (fun h => ?_)
      ·
        refine k_seq ?_
        refine k_region ?_
        refine m_sl rfl rfl ?_
        refine m_int rfl rfl ?_
        refine o_nil ?_
        refine k_ret (ret_tmps (ts := [2, 3]) (v := .tuple #[.slice _ _ _, .int _ _]) rfl rfl ?_)
        exact WriteR.no (by rw [hwr, hrb, if_neg (fun e => h (by rw [Option.some.inj e]))]) hK06
      have hlen : (rdV b).length = l.length := by omega
      have hWB6 := hWB.keep hK6 (by simp)
      have hWS6 := hWS.new hK6
      have hX6' : Rows (GR w6) vs6 (rdV b) := hX6.mono (fun v l hv => hv.gr)
      refine k_skip ?_
      refine k_seq ?_
      refine k_seq ?_
      refine k_region ?_
      refine m_sl rfl rfl ?_
      refine o_lens Try.underlying24 rfl ?_
      refine m_int rfl rfl ?_
      refine o_nil ?_
      refine k_block ?_
      refine k_loop (σ := Nat) (fun i => [(0, .slice a l.length c), (4, .pointer (some ⟨wb, 0, none⟩)), (8, .slice a6 (rdV b).length c6), (72, .int .i64 (l.length : Int)), (73, .int .i64 (i : Int))]) (fun i w' => i ≤ l.length ∧ (∀ j, j < i → l[j]? = (rdV b)[j]?) ∧ Keep [] w6 w') (fun i => l.length - i) 0 ⟨rfl, rfl, rfl, rfl, rfl, trivial⟩ ⟨Nat.zero_le _, fun j hj => by omega, Keep.refl _ _⟩ (fun k e w7 hJ => ?_)
      obtain ⟨hki, hke, hK7⟩ := hJ
      have hK07 := hK06.tr hK7
      refine k_seq ?_
      refine k_region ?_
      refine b_lss rfl rfl ?_
      refine o_nil ?_
      refine k_seq ?_
      refine k_cond rfl (fun h => ?_) (fun h => ?_)
      rotate_left
      ·
        refine k_exit rfl ?_
        refine k_seq ?_
        refine k_region ?_
        refine m_ptr rfl rfl ?_
        refine o_nilc rfl ?_
        refine o_fld0 rfl rfl ?_
        refine o_ld (v := .slice a' b.length c') rfl rfl ((hWB6.keep hK7 (by simp)).at rfl) ?_
        refine m_sl rfl rfl ?_
        refine m_int rfl rfl ?_
        refine o_nil ?_
        refine k_ret (ret_tmps (ts := [2, 3]) (v := .tuple #[.slice _ _ _, .int _ _]) rfl rfl ?_)
        have hall : rdV b = l := List.ext_getElem? fun j => by
         by_cases hj : j < l.length
         · exact (hke j (by omega)).symm
         · rw [List.getElem?_eq_none (by omega), List.getElem?_eq_none (by omega)]
        have hy := wr_yes (l := l) (b := b) (by rw [hwr, hrb, hall, if_pos rfl])
        refine ⟨a', c', ?_, ?_, hWf, hK07⟩
        · rw [hy.1, hy.2]
        · rw [hy.1]; exact hWS6.new hK7
      have hkn : k < l.length := by omega
      obtain ⟨x, hx⟩ : ∃ x, l[k]? = some x := ⟨_, List.getElem?_eq_getElem hkn⟩
      obtain ⟨y, hy⟩ : ∃ y, (rdV b)[k]? = some y := ⟨_, List.getElem?_eq_getElem (by omega)⟩
      obtain ⟨cx, hcx, hatx⟩ := hX.get hx
      obtain ⟨cy, hcy, haty⟩ := hX6'.get hy
      have h7x := hcx.len
      have h7y := hcy.len
      obtain ⟨v0, hv0⟩ : ∃ v0, cx[0]? = some v0 := ⟨_, List.getElem?_eq_getElem (by omega)⟩
      obtain ⟨u0, hu0⟩ : ∃ u0, cy[0]? = some u0 := ⟨_, List.getElem?_eq_getElem (by omega)⟩
      have hR6 := hS6.rd
      obtain ⟨b1, o1, hax, _⟩ := hR _ _ (hatx 0 v0 hv0)
      obtain ⟨b2, o2, hay, _⟩ := hR6 _ _ (haty 0 u0 hu0)
      subst hax hay
      refine k_skip ?_
      refine k_seq ?_
      refine k_block ?_
      refine k_seq ?_
      refine k_region ?_
      refine m_int rfl rfl ?_
      refine m_int rfl rfl ?_
      refine o_nil ?_
      refine k_seq ?_
      refine k_qk 8 rfl rfl rfl rfl rfl ?_
      refine q_step (fun w1 hC => m_sl rfl rfl (o_nil ⟨rfl, hC⟩)) ?_
      refine q_step (fun w1 hC => m_int rfl rfl (o_nil ⟨rfl, hC⟩)) ?_
      refine q_step (fun w1 hC => o_ixs (sz := 7) Try.underlying24 rfl rfl rfl hkn (o_nil ⟨rfl, hC⟩)) ?_
      refine q_step (fun w1 hC => o_lda (xs := cx) rfl rfl (by rw [h7x]; rfl) (fun j v hv => by rw [Nat.add_assoc]; exact hR.cellK (hK07.tr hC) (hatx j v hv)) (o_nil ⟨rfl, hC⟩)) ?_
      refine q_step (fun w1 hC => m_sl rfl rfl (o_nil ⟨rfl, hC⟩)) ?_
      refine q_step (fun w1 hC => m_int rfl rfl (o_nil ⟨rfl, hC⟩)) ?_
      refine q_step (fun w1 hC => o_ixs (sz := 7) Try.underlying24 rfl rfl rfl (by omega) (o_nil ⟨rfl, hC⟩)) ?_
      refine q_step (fun w1 hC => o_lda (xs := cy) rfl rfl (by rw [h7y]; rfl) (fun j v hv => by rw [Nat.add_assoc]; exact hR6.cellK (hK7.tr hC) (haty j v hv)) (o_nil ⟨rfl, hC⟩)) ?_
      refine q_nil ?_
      intro w8 hC8
      refine o_call rfl rfl (same_ok w8 cx cy x y (hcx.mono fun v l hv => hv.new (hK07.tr hC8)) (hcy.mono fun v l hv => hv.new (hK7.tr hC8))) (fun v w9 hv => ?_)
      obtain ⟨rfl, hK9⟩ := hv
      refine u_not rfl ?_
      refine o_nil ?_
      refine k_cond rfl (fun h => ?_) (fun h => ?_)
      ·
        refine k_seq ?_
        refine k_region ?_
        refine m_sl rfl rfl ?_
        refine m_int rfl rfl ?_
        refine o_nil ?_
        refine k_ret (ret_tmps (ts := [2, 3]) (v := .tuple #[.slice _ _ _, .int _ _]) rfl rfl ?_)
        refine WriteR.no ?_ ((hK07.tr hC8).tr hK9)
        rw [hwr, hrb, if_neg]
        intro e
        have e2 := Option.some.inj e
        rw [e2, hx] at hy
        exact h (Option.some.inj hy)
      refine k_skip ?_
      refine k_blk ?_
      refine k_region ?_
      refine n_add rfl rfl (by omega) ?_
      refine m_int rfl rfl ?_
      refine o_nil ?_
      refine k_goal ⟨k + 1, ⟨rfl, rfl, rfl, rfl, rfl, trivial⟩, ⟨by omega, fun j hj => ?_, (hK7.tr hC8).tr hK9⟩, by omega⟩
      by_cases hjk : j = k
      · rw [hjk, hx, hy, Decidable.of_not_not h]
      · exact hke j (by omega)
  have hin : i < l.length := by omega
  obtain ⟨x, hx⟩ : ∃ x, l[i]? = some x := ⟨_, List.getElem?_eq_getElem hin⟩
  have hxm : x ∈ l := List.mem_of_getElem? hx
  have hdrop : l.drop i = x :: l.drop (i + 1) := by
   rw [List.drop_eq_getElem_cons hin]
   rw [List.getElem?_eq_getElem hin] at hx
   rw [Option.some.inj hx]
  rw [hdrop] at hwf
  obtain ⟨cx, hcx, hat⟩ := hX.get hx
  have h7 := hcx.len
  obtain ⟨v0, hv0⟩ : ∃ v0, cx[0]? = some v0 := ⟨_, List.getElem?_eq_getElem (by omega)⟩
  obtain ⟨b1, o1, rfl, _⟩ := hR _ _ (hat 0 v0 hv0)
  refine k_skip ?_
  refine k_seq ?_
  refine k_block ?_
  refine k_seq ?_
  refine k_region ?_
  refine o_ixs (sz := 7) Try.underlying24 rfl rfl rfl hin ?_
  have hld : ∀ j v, cx[j]? = some v → w3.cell? ⟨b1, o1 + i * 7 + j, none⟩ = some v := fun j v hv => by rw [Nat.add_assoc]; exact hR.cellK hK03 (hat j v hv)
  refine o_lda (xs := cx) rfl rfl (by rw [h7]; rfl) hld ?_
  refine o_alloc inf38 rfl (fun b7 w4 hB4 hK4 hb4 hZ4 => ?_)
  refine o_sta (xs := cx) rfl rfl (by rw [h7]; rfl) hcx.oneR hB4 (by rw [h7]; exact Nat.le_refl 7) (fun w5 hB5 hK5 hZ5 => ?_)
  have hB5' : Blk w5 b7 (([] ++ cx) ++ []).toArray 38 := by rw [h7] at hB5; exact hB5
  rw [List.nil_append, List.append_nil] at hB5'
  have hK35 : Keep [] w3 w5 := hK4.trans hK5 (by simp; omega)
  have hT5 : KeepT [5, 52] w.heap.size w2 w5 := hT3.tr hK35.t
  have hW5 : Wr w.heap.size w5 wb b := by
   obtain ⟨a', c', h1, h2, h3, h4⟩ := hW3
   exact ⟨a', c', h1.keep hK35 (by simp), h2.new hK35, h3, h4⟩
  have hK05 := hK03.tr hK35
  have hins := hcx
  obtain ⟨kv, jv, hce, hkv, hjv⟩ := hcx
  subst hce
  have hWb := hW5.choose_spec.choose_spec.1
  refine o_nil ?_
  refine k_seq ?_
  refine k_cut (σ := Unit) (fun _ => [(0, .slice (some ⟨b1, o1, none⟩) l.length c), (4, .pointer (some ⟨wb, 0, none⟩)), (5, .map (some mm)), (14, .slice (some ⟨b1, o1, none⟩) l.length c), (15, .int .i64 (l.length : Int)), (16, .int .i64 (i : Int)), (52, .bool (decide (wrFrom b (x :: []) = none)))]) (fun _ w' => KeepT [5, 52] w.heap.size w2 w' ∧ ∀ b', wrFrom b (x :: []) = some b' → Wr w.heap.size w' wb b' ∧ b'.length ≤ 4096 ∧ wrFrom b (x :: l.drop (i + 1)) = wrFrom b' (l.drop (i + 1))) ?_ (fun _ e w' hJ => ?_)
  ·
    refine k_qk 22 rfl rfl rfl rfl rfl ?_
    refine q_step (fun w1 hC => o_fld0 rfl rfl (o_nil ⟨rfl, hC⟩)) ?_
    refine q_step (fun w1 hC => o_ld (v := iv x.p) rfl rfl (hB5'.kat hC rfl) (o_nil ⟨rfl, hC⟩)) ?_
    refine q_step (fun w1 hC => m_ptr rfl rfl (o_nil ⟨rfl, hC⟩)) ?_
    refine q_step (fun w1 hC => o_nilc rfl (o_nil ⟨rfl, hC⟩)) ?_
    refine q_step (fun w1 hC => o_fld0 rfl rfl (o_nil ⟨rfl, hC⟩)) ?_
    refine q_step (fun w1 hC => o_ld rfl rfl (hWb.kat hC rfl) (o_nil ⟨rfl, hC⟩)) ?_
    refine q_step (fun w1 hC => o_lens Try.underlying22 rfl (o_nil ⟨rfl, hC⟩)) ?_
    refine q_step (fun w1 hC => b_neq rfl rfl (o_nil ⟨rfl, hC⟩)) ?_
    refine q_step (fun w1 hC => m_bool rfl rfl (o_nil ⟨rfl, hC⟩)) ?_
    refine q_split (t := 28) rfl (fun h => ?_) (fun h => ?_)
    ·
      have h28 := h
      refine q_step (v := undef) (fun w1 hC => g_no rfl rfl rfl (o_nil ⟨rfl, hC⟩)) ?_
      refine q_step (v := undef) (fun w1 hC => g_no rfl rfl rfl (o_nil ⟨rfl, hC⟩)) ?_
      refine q_step (v := undef) (fun w1 hC => g_no rfl rfl rfl (o_nil ⟨rfl, hC⟩)) ?_
      refine q_step (v := undef) (fun w1 hC => g_no rfl rfl rfl (o_nil ⟨rfl, hC⟩)) ?_
      refine q_step (fun w1 hC => pick_t rfl rfl (o_nil ⟨rfl, hC⟩)) ?_
      refine q_step (fun w1 hC => m_bool rfl rfl (o_nil ⟨rfl, hC⟩)) ?_
      refine q_step (v := undef) (fun w1 hC => g_no rfl rfl rfl (o_nil ⟨rfl, hC⟩)) ?_
      refine q_step (v := undef) (fun w1 hC => g_no rfl rfl rfl (o_nil ⟨rfl, hC⟩)) ?_
      refine q_step (v := undef) (fun w1 hC => g_no rfl rfl rfl (o_nil ⟨rfl, hC⟩)) ?_
      refine q_step (v := undef) (fun w1 hC => g_no rfl rfl rfl (o_nil ⟨rfl, hC⟩)) ?_
      refine q_step (v := undef) (fun w1 hC => g_no rfl rfl rfl (o_nil ⟨rfl, hC⟩)) ?_
      refine q_step (v := undef) (fun w1 hC => g_no rfl rfl rfl (o_nil ⟨rfl, hC⟩)) ?_
      refine q_step (v := undef) (fun w1 hC => g_no rfl rfl rfl (o_nil ⟨rfl, hC⟩)) ?_
      refine q_nil ?_
      intro w' hC
      refine g_no rfl rfl rfl ?_
      refine g_no rfl rfl rfl ?_
      refine pick_t rfl rfl ?_
      refine m_bool rfl rfl ?_
      refine g_no rfl rfl rfl ?_
      refine g_no rfl rfl rfl ?_
      refine g_no rfl rfl rfl ?_
      refine g_no rfl rfl rfl ?_
      refine g_no rfl rfl rfl ?_
      refine g_no rfl rfl rfl ?_
      refine pick_t rfl rfl ?_
      refine o_nil ?_
      have hn : wrFrom b [x] = none := wrFrom_no (fun hh => h28 hh.1)
      refine k_goal ⟨(), ⟨rfl, rfl, rfl, rfl, rfl, rfl, congrArg Value.bool (decide_eq_true hn).symm, trivial⟩, hT5.tr hC.t, fun b' hb' => by rw [hn] at hb'; cases hb'⟩
    ·
      have h28 : x.p = b.length := Decidable.of_not_not h
      refine q_step (fun w1 hC => g_yes rfl rfl (o_fld (off := 2) rfl rfl (o_nil ⟨rfl, hC⟩))) ?_
      refine q_step (fun w1 hC => g_yes rfl rfl (o_ld (v := iv x.op) rfl rfl (hB5'.kat hC rfl) (o_nil ⟨rfl, hC⟩))) ?_
      refine q_step (fun w1 hC => g_yes rfl rfl (b_shrn (c := 8) rfl rfl (o_nil ⟨rfl, hC⟩))) ?_
      refine q_step (fun w1 hC => g_yes rfl rfl (b_neq rfl rfl (o_nil ⟨rfl, hC⟩))) ?_
      refine q_step (fun w1 hC => pick_f rfl rfl (o_nil ⟨rfl, hC⟩)) ?_
      refine q_step (fun w1 hC => m_bool rfl rfl (o_nil ⟨rfl, hC⟩)) ?_
      refine q_split (t := 34) rfl (fun h => ?_) (fun h => ?_)
      ·
        have h34 := h
        refine q_step (v := undef) (fun w1 hC => g_no rfl rfl rfl (o_nil ⟨rfl, hC⟩)) ?_
        refine q_step (v := undef) (fun w1 hC => g_no rfl rfl rfl (o_nil ⟨rfl, hC⟩)) ?_
        refine q_step (v := undef) (fun w1 hC => g_no rfl rfl rfl (o_nil ⟨rfl, hC⟩)) ?_
        refine q_step (v := undef) (fun w1 hC => g_no rfl rfl rfl (o_nil ⟨rfl, hC⟩)) ?_
        refine q_step (v := undef) (fun w1 hC => g_no rfl rfl rfl (o_nil ⟨rfl, hC⟩)) ?_
        refine q_step (v := undef) (fun w1 hC => g_no rfl rfl rfl (o_nil ⟨rfl, hC⟩)) ?_
        refine q_step (v := undef) (fun w1 hC => g_no rfl rfl rfl (o_nil ⟨rfl, hC⟩)) ?_
        refine q_nil ?_
        intro w' hC
        refine g_no rfl rfl rfl ?_
        refine g_no rfl rfl rfl ?_
        refine pick_t rfl rfl ?_
        refine m_bool rfl rfl ?_
        refine g_no rfl rfl rfl ?_
        refine g_no rfl rfl rfl ?_
        refine g_no rfl rfl rfl ?_
        refine g_no rfl rfl rfl ?_
        refine g_no rfl rfl rfl ?_
        refine g_no rfl rfl rfl ?_
        refine pick_t rfl rfl ?_
        refine o_nil ?_
        have hn : wrFrom b [x] = none := wrFrom_no (fun hh => h34 ((op_in x.op).2 hh.2))
        refine k_goal ⟨(), ⟨rfl, rfl, rfl, rfl, rfl, rfl, congrArg Value.bool (decide_eq_true hn).symm, trivial⟩, hT5.tr hC.t, fun b' hb' => by rw [hn] at hb'; cases hb'⟩
      ·
        have hop := (op_in x.op).1 (Decidable.of_not_not h)
        obtain ⟨m, hM, hG⟩ := hT2
        have hM5 := hM.kt hT5
        have hwle := wayOf_le x.op.toNat
        obtain ⟨f, hfd⟩ : ∃ f, f = BitVec.ofNat 8 (wayOf x.op.toNat) := ⟨_, rfl⟩
        have hfn : f.toNat = wayOf x.op.toNat := by rw [hfd, BitVec.toNat_ofNat]; omega
        have hget : (getM m x.op).getD (.int .u8 0) = .int .u8 (f.toNat : Int) := by
         have := hG x.op.toNat (by omega)
         rw [Int.toNat_of_nonneg hop.1] at this
         rw [this, hfn]
         by_cases h0 : wayOf x.op.toNat = 0
         · rw [if_pos h0, h0]; rfl
         · rw [if_neg h0]; rfl
        refine q_step (fun w1 hC => g_yes rfl rfl (m_ptr rfl rfl (o_nil ⟨rfl, hC⟩))) ?_
        refine q_step (fun w1 hC => g_yes rfl rfl (o_lda (xs := [iv x.p, iv x.len, iv x.op, iv x.a, iv x.b, kv, jv]) rfl rfl rfl (fun j v hv => by rw [Nat.zero_add]; exact (hB5'.keep hC (by simp)).at (by simpa using hv)) (o_nil ⟨rfl, hC⟩))) ?_
        refine q_step (fun w1 hC => g_yes rfl rfl (m_map rfl rfl (o_nil ⟨rfl, hC⟩))) ?_
        refine q_step (fun w1 hC => g_yes rfl rfl (o_fld (off := 2) rfl rfl (o_nil ⟨rfl, hC⟩))) ?_
        refine q_step (fun w1 hC => g_yes rfl rfl (o_ld (v := iv x.op) rfl rfl (hB5'.kat hC rfl) (o_nil ⟨rfl, hC⟩))) ?_
        refine q_step (fun w1 hC => g_yes rfl rfl (cv8 rfl Try.underlying5 rfl (o_nil ⟨rfl, hC⟩))) ?_
        refine q_step (fun w1 hC => g_yes rfl rfl (o_look (kv := Value.int .u8) (q := x.op) Try.underlying41 (key_int Try.underlying5) inf55 rfl (by show Value.int .u8 ((BitVec.ofInt 8 x.op).toNat : Int) = _; rw [BitVec.toNat_ofInt]; exact congrArg (Value.int .u8) (by omega)) (hM5.keep hC (by simp)) hget (o_nil ⟨rfl, hC⟩))) ?_
        refine q_nil ?_
        intro w6 hC6
        have hW6 : Wr w.heap.size w6 wb b := by
         obtain ⟨a', c', h1, h2, h3, h4⟩ := hW5
         exact ⟨a', c', h1.keep hC6 (by simp), h2.new hC6, h3, h4⟩
        refine g_yes rfl rfl ?_
        refine o_call rfl rfl (wone_ok w w6 wb b [iv x.p, iv x.len, iv x.op, iv x.a, iv x.b, kv, jv] x f (hK05.tr hC6) hins hW6 hb (hk x hxm)) (fun v w7 hv => ?_)
        obtain ⟨rfl, hW7, hT7⟩ := hv
        rw [hfn] at hW7
        have hT27 := (hT5.tr hC6.t).tr hT7
        refine g_yes rfl rfl ?_
        refine u_notb rfl ?_
        refine pick_f rfl rfl ?_
        refine m_bool rfl rfl ?_
        refine o_split (t := 45) (p := wrOne b x f.toNat = none) (by show Value.bool (!(wrOne b x f.toNat).isSome) = _; cases wrOne b x f.toNat <;> rfl) (fun h => ?_) (fun h => ?_)
        ·
          have h45 := h
          refine g_no rfl rfl rfl ?_
          refine g_no rfl rfl rfl ?_
          refine g_no rfl rfl rfl ?_
          refine g_no rfl rfl rfl ?_
          refine g_no rfl rfl rfl ?_
          refine g_no rfl rfl rfl ?_
          refine pick_t rfl rfl ?_
          refine o_nil ?_
          have hn : wrFrom b [x] = none := wrFrom_none (by rw [← hfn]; exact h45)
          refine k_goal ⟨(), ⟨rfl, rfl, rfl, rfl, rfl, rfl, congrArg Value.bool (decide_eq_true hn).symm, trivial⟩, hT27, fun b' hb' => by rw [hn] at hb'; cases hb'⟩
        ·
          have h45 := h
          obtain ⟨b', hb'⟩ : ∃ b', wrOne b x (wayOf x.op.toNat) = some b' := by
           rw [hfn] at h45
           cases hw : wrOne b x (wayOf x.op.toNat) with
           | none => exact absurd hw h45
           | some y => exact ⟨y, rfl⟩
          have hWb' := hW7 b' hb'
          refine g_yes rfl rfl ?_
          refine m_ptr rfl rfl ?_
          refine g_yes rfl rfl ?_
          refine o_nilc rfl ?_
          refine g_yes rfl rfl ?_
          refine o_fld0 rfl rfl ?_
          refine g_yes rfl rfl ?_
          refine o_ld rfl rfl (hWb'.choose_spec.choose_spec.1.at rfl) ?_
          refine g_yes rfl rfl ?_
          refine o_lens Try.underlying22 rfl ?_
          refine g_yes rfl rfl ?_
          refine b_gtr rfl rfl ?_
          refine pick_f rfl rfl ?_
          refine o_nil ?_
          refine k_goal ⟨(), ⟨rfl, rfl, rfl, rfl, rfl, rfl, congrArg Value.bool (decide_eq_decide.2 ⟨fun h1 => wrFrom_long hb' (by omega), fun h1 => Int.not_le.1 fun h2 => by
           rw [wrFrom_some ⟨h28, hop⟩ hb' (by omega)] at h1
           cases h1⟩), trivial⟩, hT27, fun b2 hb2 => ?_⟩
          by_cases h4 : b'.length ≤ 4096
          · rw [wrFrom_some ⟨h28, hop⟩ hb' h4] at hb2 ⊢
            cases hb2
            exact ⟨hWb', h4, rfl⟩
          · rw [wrFrom_long hb' h4] at hb2; cases hb2
  obtain ⟨hTJ, hJ2⟩ := hJ
  refine k_cond rfl (fun h => ?_) (fun h => ?_)
  ·
    refine k_seq ?_
    refine k_region ?_
    refine m_sl rfl rfl ?_
    refine m_int rfl rfl ?_
    refine o_nil ?_
    refine k_ret (ret_tmps (ts := [2, 3]) (v := .tuple #[.slice _ _ _, .int _ _]) rfl rfl ?_)
    refine WriteR.no ?_ (hTJ.below hK02 (Nat.le_refl _))
    have hnn : wrFrom b (x :: l.drop (i + 1)) = none := by
     unfold wrFrom at h ⊢
     by_cases h0 : x.p = b.length ∧ 0 ≤ x.op ∧ x.op < 256
     · rw [if_pos h0] at h ⊢
       cases hw : wrOne b x (wayOf x.op.toNat) with
       | none => rfl
       | some b' =>
         rw [hw] at h
         simp only at h ⊢
         by_cases h4 : b'.length ≤ 4096
         · rw [if_pos h4] at h; unfold wrFrom at h; cases h
         · rw [if_neg h4]
     · rw [if_neg h0]
    unfold wr
    rw [hwf, hnn]
  refine k_skip ?_
  refine k_blk ?_
  refine k_region ?_
  refine n_add rfl rfl (by omega) ?_
  refine m_int rfl rfl ?_
  refine o_nil ?_
  obtain ⟨b', hb'⟩ : ∃ b', wrFrom b [x] = some b' := by
   cases hw : wrFrom b [x] with
   | none => exact absurd hw h
   | some y => exact ⟨y, rfl⟩
  obtain ⟨hWn, hln, hwn⟩ := hJ2 b' hb'
  refine k_goal ⟨i + 1, ⟨rfl, rfl, rfl, rfl, rfl, rfl, trivial⟩, ⟨by omega, ⟨b', hWn, hln, by rw [hwf, hwn]⟩, hTJ⟩, by omega⟩
end Go.Proofs.Ytmdkinedbmjieaa
