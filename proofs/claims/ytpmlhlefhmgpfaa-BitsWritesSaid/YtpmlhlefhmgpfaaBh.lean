/- The walk of the law BitsWrites. No condition beyond what each contract names. -/
import Derived.Test.YtpmlhlefhmgpfaaBg
import Derived.Test.YtpmlhlefhmgpfaaAnz
namespace Go.Proofs.Ytpmlhlefhmgpfaa
open Go.RowKit E
set_option linter.unusedVariables false
set_option linter.unusedSimpArgs false
set_option maxRecDepth 100000
attribute [local irreducible] ow qw kw kq cw opW Ret
/-- a writer whose memory lies below a bound -/
def WtrB (k h : Nat) (w : World) (r : Nat) (l : List Bool) : Prop :=
  ∃ a c, Blk w r #[.slice a (pack l).length c, .int .i64 (l.length : Int)] 27 ∧ Sl w 5 1 a (pack l).length c ((pack l).map u8v) ∧ k ≤ r ∧ (∀ q, a = some q → k ≤ q.block) ∧ r < h ∧ ∀ q, a = some q → q.block < h
theorem Wtr.b {k : Nat} {w : World} {r : Nat} {l : List Bool} (h : Wtr k w r l) : WtrB k w.heap.size w r l := by
  obtain ⟨a, c, hB, hS, h1, h2⟩ := h
  exact ⟨a, c, hB, hS, h1, h2, hB.lt, hS.lt⟩
theorem WtrB.wtr {k h : Nat} {w : World} {r : Nat} {l : List Bool} (hh : WtrB k h w r l) : Wtr k w r l := by
  obtain ⟨a, c, hB, hS, h1, h2, _⟩ := hh
  exact ⟨a, c, hB, hS, h1, h2⟩
theorem WtrB.up {k h : Nat} {S : List Nat} {w w' : World} {r : Nat} {l : List Bool} (hh : WtrB k h w r l) (hk : Keep S w w') (hS : ∀ b ∈ S, h ≤ b) : WtrB k h w' r l := by
  obtain ⟨a, c, hB, hs, h1, h2, h3, h4⟩ := hh
  exact ⟨a, c, hB.keep hk (fun hm => by have := hS _ hm; omega), hs.keep hk (off_lt h4 hS), h1, h2, h3, h4⟩
theorem rw_new {w w1 w2 : World} {b : Nat} (hB : Blk w2 b #[.slice none 0 0] 31) (hb : w1.heap.size = b) (hk : w.heap.size ≤ w1.heap.size) : RW w.heap.size w2 b [] :=
  ⟨none, 0, hB, Sl.nil _ _ _, by omega, by simp⟩
theorem RW.low {k g : Nat} {w w' : World} {r : Nat} {l : List Bool} {cs : Array Value} (h : RW k w r l) (hg : Blk w g cs 5) (hk : Keep [g] w w') : RW k w' r l :=
  h.kt (Ts := [5]) (k' := 0) ⟨[g], hk, by intro b hb; simp at hb; subst hb; exact ⟨by omega, cs, 5, by simp, hg⟩⟩ (by decide) (by decide)
theorem writes_ok (w : World) (a0 : Option Addr) (n0 c0 : Nat) (css : List (List Value))
    (hA : Rd w a0 css.flatten) (h1 : css.length = n0) (h4 : ∀ cs ∈ css, cs.length = 4) (hcs : ∀ cs ∈ css, AskAt w cs) (hn0 : n0 ≤ 9223372036854775807) :
    Ret Try.prog 3 [.slice a0 n0 c0] w (fun v w' => v = .bool true ∧ Keep [] w w') := by
  refine fn_enter (n := 99) Try.func3 rfl rfl (Nat.le_of_ble_eq_true rfl) (fun e => ?_)
  refine k_seq ?_
  refine k_region ?_
  refine m_bool rfl rfl ?_
  refine o_nil ?_
  refine k_seq ?_
  refine k_seq ?_
  refine k_region ?_
  refine o_call rfl rfl (fixed_ok w) (fun v w1 hv => ?_)
  obtain ⟨rfl, hK1⟩ := hv
  refine u_notb rfl ?_
  refine o_nil ?_
  refine k_condf rfl ?_
  refine k_skip ?_
  refine k_seq ?_
  refine k_region ?_
  refine o_build (v := .agg #[.slice none 0 0, .int .i64 0]) rfl (fun _ => by kernel_rfl) ?_
  refine o_box rfl rfl (fun r w2 hB2 hK2 hb2 hZ2 => ?_)
  have hk2 := hK1.tr hK2
  have hW2 : Wtr w.heap.size w2 r [] := wtr_new hB2 hb2 hK1.size
  refine o_build (v := .agg #[.slice none 0 0]) rfl (fun _ => by kernel_rfl) ?_
  refine o_box rfl rfl (fun x w3 hB3 hK3 hb3 hZ3 => ?_)
  have hk3 := hk2.tr hK3
  have hX3 : RW w.heap.size w3 x [] := rw_new hB3 hb3 hk2.size
  refine m_ptr rfl rfl ?_
  refine m_ptr rfl rfl ?_
  refine o_nil ?_
  refine k_seq ?_
  refine k_seq ?_
  refine k_region ?_
  refine m_sl rfl rfl ?_
  refine o_lens Try.underlying22 rfl ?_
  refine m_int rfl rfl ?_
  refine o_nil ?_
  refine k_block ?_
  refine k_loop (σ := Nat × List Bool) (fun s => [(3, .pointer (some ⟨r, 0, none⟩)), (4, .pointer (some ⟨x, 0, none⟩)), (15, .slice a0 n0 c0), (16, .int .i64 (n0 : Int)), (17, .int .i64 (s.1 : Int))]) (fun s w' => s.1 ≤ n0 ∧ s.1 ≤ 100 ∧ s.2.length ≤ 8010 * s.1 ∧ Wtr w.heap.size w' r s.2 ∧ RW w.heap.size w' x s.2 ∧ Keep [] w w') (fun s => n0 - s.1) (0, []) ⟨rfl, rfl, rfl, rfl, rfl, trivial⟩ ⟨by simp, by simp, by simp, hW2.new hK3, hX3, hk3⟩ (fun s e w9 hJ => ?_)
  obtain ⟨j, l⟩ := s
  obtain ⟨hj, hj100, hll, hW9, hX9, hk9⟩ := hJ
  simp only at hj hj100 hll hW9 hX9
  refine k_seq ?_
  refine k_region ?_
  refine b_lss rfl rfl ?_
  refine o_nil ?_
  refine k_seq ?_
  refine k_cond rfl (fun h => ?_) (fun h => ?_)
  rotate_left
  ·
    refine k_exit rfl ?_
    refine k_seq ?_
    refine k_region ?_
    refine m_ptr rfl rfl ?_
    refine o_call rfl rfl (wbytes_ok w.heap.size w9 r l (by omega) hW9) (fun v w10 hv => ?_)
    obtain ⟨⟨a10, c10, rfl, hS10, _⟩, hK10⟩ := hv
    refine m_ptr rfl rfl ?_
    refine o_call rfl rfl (rwbytes_ok w.heap.size w10 x l (by omega) (hX9.new hK10)) (fun v w11 hv => ?_)
    obtain ⟨⟨a11, c11, rfl, hS11, _⟩, hK11⟩ := hv
    have hmx := sl_max hS10
    have hS10' := hS10.new hK11
    rw [List.length_map] at hmx hS10' hS11 ⊢
    refine o_call rfl rfl (same_ok w11 a10 a11 c10 c11 _ _ hS10'.rd hS11.rd hmx) (fun v w12 hv => ?_)
    obtain ⟨rfl, hK12⟩ := hv
    refine m_bool rfl rfl ?_
    refine o_nil ?_
    refine k_ret (ret_tmps (ts := [2]) (v := .bool _) rfl rfl ?_)
    exact ⟨by simp, ((hk9.tr hK10).tr hK11).tr hK12⟩
  have hjn : j < css.length := by omega
  obtain ⟨k, n, v, aA, cA, bsA, hA0, hn, hv, hAr, hAl⟩ := hcs _ (List.getElem_mem hjn)
  have hA4 := h4 _ (List.getElem_mem hjn)
  have hcell := fun i v (hi : (css[j])[i]? = some v) => flatten_get css h4 j i _ v (List.getElem?_eq_getElem hjn) hi
  rw [hA0] at hcell
  obtain ⟨bA, oA, rfl, _⟩ := hA _ _ (hcell 0 _ rfl)
  refine k_skip ?_
  refine k_seq ?_
  refine k_block ?_
  refine k_seq ?_
  refine k_region ?_
  refine m_int rfl rfl ?_
  refine o_ixs (sz := 4) Try.underlying22 rfl rfl rfl (by omega) ?_
  refine o_lda (xs := [.int .u8 (k.toNat : Int), .int .i64 n, .int .i64 v, .slice aA bsA.length cA]) rfl rfl rfl (fun i u hi => by have := hA.cellK hk9 (hcell i u hi); rwa [← Nat.add_assoc] at this) ?_
  refine o_alloc (cs := #[.int .u8 0, .int .i64 0, .int .i64 0, .slice none 0 0]) ⟨_, rfl, rfl, rfl, rfl⟩ rfl (fun b w10 hB10 hK10 hb10 hZ10 => ?_)
  refine m_int rfl rfl ?_
  refine o_sta (xs := [.int .u8 (k.toNat : Int), .int .i64 n, .int .i64 v, .slice aA bsA.length cA]) rfl rfl rfl (by intro u hu; simp at hu; rcases hu with rfl | rfl | rfl | rfl <;> rfl) hB10 (by simp) (fun w11 hB11 hK11 hZ11 => ?_)
  have hk911 : Keep [] w9 w11 := hK10.tr1 hK11 (by omega)
  have hk11 := hk9.tr hk911
  have hW11 := hW9.new hk911
  have hX11 := hX9.new hk911
  have hB11 : Blk w11 b #[.int .u8 (k.toNat : Int), .int .i64 n, .int .i64 v, .slice aA bsA.length cA] 33 := hB11
  refine o_nil ?_
  refine k_seq ?_
  refine k_seq ?_
  refine k_region ?_
  refine m_int rfl rfl ?_
  refine b_geq rfl rfl ?_
  refine m_bool rfl rfl ?_
  refine o_split (t := 24) rfl (fun h => ?_) (fun h => ?_)
  ·
    refine g_no rfl rfl rfl ?_
    refine g_no rfl rfl rfl ?_
    refine g_no rfl rfl rfl ?_
    refine g_no rfl rfl rfl ?_
    refine pick_t rfl rfl ?_
    refine o_nil ?_
    refine k_condt rfl ?_
    refine k_seq ?_
    refine k_region ?_
    refine m_bool rfl rfl ?_
    refine o_nil ?_
    refine k_ret (ret_tmps (ts := [2]) (v := .bool _) rfl rfl ?_)
    exact ⟨rfl, hk11⟩
  ·
    have hj1 : j < 100 := by simp only at h; omega
    refine g_yes rfl rfl ?_
    refine o_fld (off := 3) rfl rfl ?_
    refine g_yes rfl rfl ?_
    refine o_ld rfl rfl (by first | exact hB11.at rfl | exact hB11.kat hC rfl) ?_ 
    refine g_yes rfl rfl ?_
    refine o_lens Try.underlying25 rfl ?_
    refine g_yes rfl rfl ?_
    refine b_gtr rfl rfl ?_
    refine pick_f rfl rfl ?_
    refine o_nil ?_
    refine k_cond rfl (fun h => ?_) (fun h => ?_)
    ·
      refine k_seq ?_
      refine k_region ?_
      refine m_bool rfl rfl ?_
      refine o_nil ?_
      refine k_ret (ret_tmps (ts := [2]) (v := .bool _) rfl rfl ?_)
      exact ⟨rfl, hk11⟩
    have hbl : bsA.length ≤ 1000 := by omega
    refine k_skip ?_
    refine k_seq ?_
    refine k_seq ?_
    refine k_region ?_
    refine o_fld0 rfl rfl ?_
    refine o_ld rfl rfl (by first | exact hB11.at rfl | exact hB11.kat hC rfl) ?_ 
    refine v8_rem (b := 3#8) rfl rfl (by decide) ?_
    refine o_nil ?_
    refine k_cut (σ := List Bool) (fun l' => [(3, .pointer (some ⟨r, 0, none⟩)), (4, .pointer (some ⟨x, 0, none⟩)), (15, .slice (some ⟨bA, oA, none⟩) n0 c0), (16, .int .i64 (n0 : Int)), (17, .int .i64 (j : Int))]) (fun l' w' => l'.length ≤ 8010 * (j + 1) ∧ Wtr w.heap.size w' r l' ∧ RW w.heap.size w' x l' ∧ Keep [] w w') ?_ (fun l' e w12 hJ => ?_)
    ·
      refine k_block ?_
      refine k_seq ?_
      refine k_region ?_
      refine v8_eql (b := 0#8) rfl rfl ?_
      refine m_bool rfl rfl ?_
      refine o_nil ?_
      refine k_cond rfl (fun h => ?_) (fun h => ?_)
      ·
        refine k_seq ?_
        refine k_stage 11 [5] (fun s w' => Blk w' b #[.int .u8 (k.toNat : Int), .int .i64 n, .int .i64 v, .slice aA bsA.length cA] 33 ∧ RW w.heap.size w' x l ∧ (s = 0 → Wtr w.heap.size w' r l) ∧ (s = 1 → Wtr w.heap.size w' r (pt l n v).2) ∧ Keep [] w w') rfl rfl rfl rfl rfl rfl rfl rfl ⟨hB11, hX11, fun _ => hW11, fun h => by omega, hk11.drew⟩ ?_
        refine s_step 0 0 rfl rfl rfl (fun s1 w1 h1 h2 hC => m_ptr rfl rfl (o_nil ⟨rfl, hC⟩)) ?_
        refine s_step 0 0 rfl rfl rfl (fun s1 w1 h1 h2 hC => o_fld (off := 1) rfl rfl (o_nil ⟨rfl, hC⟩)) ?_
        refine s_step 0 0 rfl rfl rfl (fun s1 w1 h1 h2 hC => o_ld rfl rfl (hC.1.at rfl) (o_nil ⟨rfl, hC⟩)) ?_
        refine s_step 0 0 rfl rfl rfl (fun s1 w1 h1 h2 hC => o_fld (off := 2) rfl rfl (o_nil ⟨rfl, hC⟩)) ?_
        refine s_step 0 0 rfl rfl rfl (fun s1 w1 h1 h2 hC => o_ld rfl rfl (hC.1.at rfl) (o_nil ⟨rfl, hC⟩)) ?_
        refine s_loud rfl (fun w1 hC => o_call rfl rfl (put_ok w.heap.size w1 r l n v (by omega) (hC.2.2.1 rfl)) (fun u w2 hv => by
          obtain ⟨rfl, hW2, hk2⟩ := hv
          exact o_nil ⟨rfl, hC.1.kt hk2 (by decide), hC.2.1.kt hk2 (by decide) (by decide), fun h => by omega, fun _ => hW2, hk2.below hC.2.2.2.2 (Nat.le_refl _)⟩)) ?_
        refine s_step 0 1 rfl rfl rfl (fun s1 w1 h1 h2 hC => m_ptr rfl rfl (o_nil ⟨rfl, hC⟩)) ?_
        refine s_step 0 1 rfl rfl rfl (fun s1 w1 h1 h2 hC => o_fld (off := 1) rfl rfl (o_nil ⟨rfl, hC⟩)) ?_
        refine s_step 0 1 rfl rfl rfl (fun s1 w1 h1 h2 hC => o_ld rfl rfl (hC.1.at rfl) (o_nil ⟨rfl, hC⟩)) ?_
        refine s_step 0 1 rfl rfl rfl (fun s1 w1 h1 h2 hC => o_fld (off := 2) rfl rfl (o_nil ⟨rfl, hC⟩)) ?_
        refine s_step 0 1 rfl rfl rfl (fun s1 w1 h1 h2 hC => o_ld rfl rfl (hC.1.at rfl) (o_nil ⟨rfl, hC⟩)) ?_
        refine s_nil ?_
        intro w12 hC12
        obtain ⟨hB12, hX12, _, hW12, hk12⟩ := hC12
        have hW12 := hW12 rfl
        refine o_call rfl rfl (rput_ok w.heap.size w12 x l n v hv (by omega) hX12) (fun u w13 hu => ?_)
        obtain ⟨rfl, hX13, hk13⟩ := hu
        refine b_neq rfl rfl ?_
        refine o_nil ?_
        refine k_no rfl ((by simp)) ?_
        refine k_skip ?_
        refine k_blk ?_
        refine k_goal ⟨_, ⟨rfl, rfl, rfl, rfl, rfl, trivial⟩, ?_, hW12.kt hk13 (by decide) (by decide), hX13, hk13.below hk12 (Nat.le_refl _)⟩
        unfold pt
        split
        · simp only; omega
        · simp only [List.length_append, vbits_len]; omega
      have hk0 := h
      refine k_seq ?_
      refine k_region ?_
      refine v8_eql (b := 1#8) rfl rfl ?_
      refine m_bool rfl rfl ?_
      refine o_nil ?_
      refine k_cond rfl (fun h => ?_) (fun h => ?_)
      ·
        refine k_seq ?_
        refine k_region ?_
        refine m_ptr rfl rfl ?_
        refine o_call rfl rfl (walign_ok w.heap.size w11 r l (by omega) hW11) (fun u w12 hu => ?_)
        obtain ⟨hW12, hk12, _⟩ := hu
        refine o_nil ?_
        refine k_region ?_
        refine m_ptr rfl rfl ?_
        refine o_call rfl rfl (rwalign_ok w.heap.size w12 x l (by omega) (hX11.kt hk12 (by decide) (by decide))) (fun u w13 hu => ?_)
        obtain ⟨hX13, hk13⟩ := hu
        refine o_nil ?_
        refine k_blk ?_
        refine k_goal ⟨_, ⟨rfl, rfl, rfl, rfl, rfl, trivial⟩, ?_, hW12.kt hk13 (by decide) (by decide), hX13, hk13.below (hk12.below hk11 (Nat.le_refl _)) (Nat.le_refl _)⟩
        have := al_len l
        omega
      refine k_seq ?_
      refine k_region ?_
      refine v8_eql (b := 2#8) rfl rfl ?_
      refine m_bool rfl rfl ?_
      refine o_nil ?_
      refine k_yes rfl ((mod3 k hk0 h)) ?_
      refine k_seq ?_
      refine k_region ?_
      refine m_ptr rfl rfl ?_
      refine o_fld (off := 3) rfl rfl ?_
      refine o_ld rfl rfl (by first | exact hB11.at rfl | exact hB11.kat hC rfl) ?_ 
      refine o_call rfl rfl (wadd_ok w.heap.size w11 r l aA cA bsA (by omega) (by omega) hW11 (hAr.new hk11) (fun hn p hp hm => by have := hAr.ltn (by simpa using hn) p hp; simp at hm; obtain ⟨_, _, _, _, hkr, _⟩ := hW11; omega)) (fun u w12 hu => ?_)
      obtain ⟨hW12, hk12⟩ := hu
      refine o_nil ?_
      refine k_region ?_
      refine m_ptr rfl rfl ?_
      refine o_fld (off := 3) rfl rfl ?_
      refine o_ld rfl rfl ((hB11.kt hk12 (by decide)).at rfl) ?_
      refine o_call rfl rfl (rwadd_ok w.heap.size w12 x l aA cA bsA (by omega) (by omega) (hX11.kt hk12 (by decide) (by decide)) (hAr.new (hk12.below hk11 (Nat.le_refl _))) (fun hn => hAr.ltn (by simpa using hn))) (fun u w13 hu => ?_)
      obtain ⟨hX13, hk13⟩ := hu
      refine o_nil ?_
      refine k_blk ?_
      refine k_goal ⟨_, ⟨rfl, rfl, rfl, rfl, rfl, trivial⟩, ?_, hW12.kt hk13 (by decide) (by decide), hX13, hk13.below (hk12.below hk11 (Nat.le_refl _)) (Nat.le_refl _)⟩
      have := al_len l
      rw [List.length_append, flat_len]
      omega
    obtain ⟨hl', hW12, hX12, hk12⟩ := hJ
    have hl'' : l'.length ≤ 900000 := by omega
    refine k_seq ?_
    refine k_region ?_
    refine m_ptr rfl rfl ?_
    refine o_call rfl rfl (wbytes_ok w.heap.size w12 r l' (by omega) hW12) (fun u w13 hu => ?_)
    obtain ⟨⟨a13, c13, rfl, hS13, hf13⟩, hK13⟩ := hu
    have hk13 := hk12.tr hK13
    have hW13 := hW12.b.up hK13 (by simp)
    have hX13 := hX12.new hK13
    have hmx := sl_max hS13
    have hbase : ∀ w', Keep [] w13.drew w' → Keep [] w13 w' := fun w' h => (Keep.refl [] w13).drew.tr h
    rw [List.length_map] at hmx hS13 ⊢
    obtain ⟨aX, cX, hBX, hSX, hX1, hX2⟩ := id hX13
    refine m_sl rfl rfl ?_
    refine o_nil ?_
    refine k_seq ?_
    refine k_seq ?_
    refine k_any 12 (fun w w' => Keep [] w w') (fun i => match i with
        | 0 => fun v w => v = .pointer (some ⟨r, 0, none⟩)
        | 1 => fun v w => v = .int .i64 (l'.length : Int)
        | 2 => fun v w => v = .pointer (some ⟨x, 0, none⟩)
        | 3 => fun v w => v = .pointer (some ⟨x, 0, none⟩)
        | 4 => fun v w => v = .pointer (some ⟨x, 0, none⟩)
        | 5 => fun v w => v = .slice aX l'.length cX
        | 6 => fun v w => v = .int .i64 (l'.length : Int)
        | 7 => fun v w => v = .bool false
        | 8 => fun v w => v = .bool false
        | 9 => fun v w => v = .slice a13 (pack l').length c13
        | 10 => fun v w => v = .pointer (some ⟨x, 0, none⟩)
        | 11 => fun v w => ∃ a c, v = .slice a (pack l').length c ∧ Sl w 5 1 a (pack l').length c ((pack l').map u8v)
        | _ => fun v w => True) rfl rfl rfl rfl rfl (Keep.refl []) (fun _ _ _ h1 h2 => h1.tr h2) ?_ ?_ ?_
    · intro i v w w' h hL
      match i, h with
      | 0, h =>
        exact h
      | 1, h =>
        exact h
      | 2, h =>
        exact h
      | 3, h =>
        exact h
      | 4, h =>
        exact h
      | 5, h =>
        exact h
      | 6, h =>
        exact h
      | 7, h =>
        exact h
      | 8, h =>
        exact h
      | 9, h =>
        exact h
      | 10, h =>
        exact h
      | 11, h =>
        obtain ⟨a, c, h1, h2⟩ := h
        exact ⟨a, c, h1, h2.new hL⟩
      | _ + 12, h => trivial
    · intro i o him hl eA wA hL hA hD
      match i, him, hl with
      | 0, _, hl =>
        obtain rfl := Option.some.inj hl
        refine o_gen [(3, _)] ⟨hA 3 (free_of rfl), trivial⟩ (fun e2 => ?_)
        refine m_ptr rfl rfl ?_
        refine o_nil ⟨Keep.refl _ _, rfl⟩
      | 1, _, hl =>
        obtain rfl := Option.some.inj hl
        refine o_gen [(66, _)] ⟨hD 0 (by decide) 66 rfl, trivial⟩ (fun e2 => ?_)
        refine o_call rfl rfl (wlen_ok w.heap.size wA r l' (hW13.wtr.new (hbase _ hL))) (fun u w14 hu => ?_)
        obtain ⟨rfl, rfl⟩ := hu
        refine o_nil ⟨Keep.refl _ _, rfl⟩
      | 2, _, hl =>
        obtain rfl := Option.some.inj hl
        refine o_gen [(4, _)] ⟨hA 4 (free_of rfl), trivial⟩ (fun e2 => ?_)
        refine m_ptr rfl rfl ?_
        refine o_nil ⟨Keep.refl _ _, rfl⟩
      | 3, _, hl =>
        obtain rfl := Option.some.inj hl
        refine o_gen [(68, _)] ⟨hD 2 (by decide) 68 rfl, trivial⟩ (fun e2 => ?_)
        refine o_nilc rfl ?_
        refine o_nil ⟨Keep.refl _ _, rfl⟩
      | 4, _, hl =>
        obtain rfl := Option.some.inj hl
        refine o_gen [(69, _)] ⟨hD 3 (by decide) 69 rfl, trivial⟩ (fun e2 => ?_)
        refine o_fld0 rfl rfl ?_
        refine o_nil ⟨Keep.refl _ _, rfl⟩
      | 5, _, hl =>
        obtain rfl := Option.some.inj hl
        refine o_gen [(70, _)] ⟨hD 4 (by decide) 70 rfl, trivial⟩ (fun e2 => ?_)
        refine o_ld rfl rfl (hBX.kat (hbase _ hL) rfl) ?_
        refine o_nil ⟨Keep.refl _ _, rfl⟩
      | 6, _, hl =>
        obtain rfl := Option.some.inj hl
        refine o_gen [(71, _)] ⟨hD 5 (by decide) 71 rfl, trivial⟩ (fun e2 => ?_)
        refine o_lens Try.underlying29 rfl ?_
        refine o_nil ⟨Keep.refl _ _, rfl⟩
      | 7, _, hl =>
        obtain rfl := Option.some.inj hl
        refine o_gen [(67, _), (72, _)] ⟨hD 1 (by decide) 67 rfl, hD 6 (by decide) 72 rfl, trivial⟩ (fun e2 => ?_)
        refine b_neq rfl rfl ?_
        refine o_nil ⟨Keep.refl _ _, by simp [rdo, updo, upd]⟩
      | 8, _, hl =>
        obtain rfl := Option.some.inj hl
        refine o_gen [(73, _)] ⟨hD 7 (by decide) 73 rfl, trivial⟩ (fun e2 => ?_)
        refine m_bool rfl rfl ?_
        refine o_nil ⟨Keep.refl _ _, rfl⟩
      | 9, _, hl =>
        obtain rfl := Option.some.inj hl
        refine o_gen [(7, _), (74, _)] ⟨hA 7 (free_of rfl), hD 8 (by decide) 74 rfl, trivial⟩ (fun e2 => ?_)
        refine g_yes rfl rfl ?_
        refine m_sl rfl rfl ?_
        refine o_nil ⟨Keep.refl _ _, rfl⟩
      | 10, _, hl =>
        obtain rfl := Option.some.inj hl
        refine o_gen [(4, _), (74, _)] ⟨hA 4 (free_of rfl), hD 8 (by decide) 74 rfl, trivial⟩ (fun e2 => ?_)
        refine g_yes rfl rfl ?_
        refine m_ptr rfl rfl ?_
        refine o_nil ⟨Keep.refl _ _, rfl⟩
      | 11, _, hl =>
        obtain rfl := Option.some.inj hl
        refine o_gen [(74, _), (76, _)] ⟨hD 8 (by decide) 74 rfl, hD 10 (by decide) 76 rfl, trivial⟩ (fun e2 => ?_)
        refine g_yes rfl rfl ?_
        refine o_call rfl rfl (rwbytes_ok w.heap.size wA x l' (by omega) (hX13.new (hbase _ hL))) (fun u w14 hu => ?_)
        obtain ⟨⟨a14, c14, rfl, hS14, hf14⟩, hK14⟩ := hu
        rw [List.length_map] at hS14
        refine o_nil ⟨hK14, a14, c14, by simp [rdo, updo, upd], hS14⟩
      | _ + 12, him, _ => exact absurd him (by omega)
    intro eA wA hL hA hV
    obtain ⟨a14, c14, h77, hS14⟩ := hV 11 (by decide) 77 rfl
    refine o_gen [(3, .pointer (some ⟨r, 0, none⟩)), (4, .pointer (some ⟨x, 0, none⟩)), (7, .slice a13 (pack l').length c13), (15, .slice (some ⟨bA, oA, none⟩) n0 c0), (16, .int .i64 (n0 : Int)), (17, .int .i64 (j : Int)), (74, .bool false), (75, .slice a13 (pack l').length c13), (77, .slice a14 (pack l').length c14)] ⟨hA 3 (free_of rfl), hA 4 (free_of rfl), hA 7 (free_of rfl), hA 15 (free_of rfl), hA 16 (free_of rfl), hA 17 (free_of rfl), hV 8 (by decide) 74 rfl, hV 9 (by decide) 75 rfl, h77, trivial⟩ (fun e3 => ?_)
    have hLA := hbase _ hL
    refine o_false (t := 74) (p := False) rfl id ?_
    refine g_yes rfl rfl ?_
    refine o_call rfl rfl (same_ok wA a13 a14 c13 c14 _ _ (hS13.new hLA).rd hS14.rd hmx) (fun u w15 hu => ?_)
    obtain ⟨rfl, hK15⟩ := hu
    have hk15 := hLA.tr hK15
    refine g_yes rfl rfl ?_
    refine u_not rfl ?_
    refine pick_f rfl rfl ?_
    refine o_nil ?_
    refine k_no rfl ((by simp)) ?_
    refine k_skip ?_
    refine k_seq ?_
    refine k_region ?_
    refine m_sl rfl rfl ?_
    refine o_lens Try.underlying25 rfl ?_
    refine m_int rfl rfl ?_
    refine o_nil ?_
    refine k_block ?_
    refine k_loop (σ := Nat × List (BitVec 8)) (fun s => [(3, .pointer (some ⟨r, 0, none⟩)), (4, .pointer (some ⟨x, 0, none⟩)), (7, .slice a13 (pack l').length c13), (15, .slice (some ⟨bA, oA, none⟩) n0 c0), (16, .int .i64 (n0 : Int)), (17, .int .i64 (j : Int)), (82, .int .i64 ((pack l').length : Int)), (83, .int .i64 (s.1 : Int))]) (fun s w' => s.1 ≤ (pack l').length ∧ Sl w' 5 1 a13 (pack l').length c13 (s.2.map u8v) ∧ WtrB w.heap.size w12.heap.size w' r l' ∧ RW w.heap.size w' x l' ∧ Keep [] w w') (fun s => (pack l').length - s.1) (0, pack l') ⟨rfl, rfl, rfl, rfl, rfl, rfl, rfl, rfl, trivial⟩ ⟨by simp, hS13.new hk15, hW13.up hk15 (by simp), hX13.new hk15, hk13.tr hk15⟩ (fun s e w16 hJ => ?_)
    obtain ⟨i, xs⟩ := s
    obtain ⟨hi, hS16, hW16, hX16, hk16⟩ := hJ
    simp only at hi hS16
    have hxl : xs.length = (pack l').length := by have := hS16.1; simpa using this
    refine k_seq ?_
    refine k_region ?_
    refine b_lss rfl rfl ?_
    refine o_nil ?_
    refine k_seq ?_
    refine k_cond rfl (fun h => ?_) (fun h => ?_)
    rotate_left
    ·
      refine k_exit rfl ?_
      refine k_blk ?_
      refine k_region ?_
      refine n_add rfl rfl (by omega) ?_
      refine m_int rfl rfl ?_
      refine o_nil ?_
      refine k_goal ⟨(j + 1, l'), ⟨rfl, rfl, rfl, rfl, rfl, trivial⟩, ⟨by simp only; omega, by simp only; omega, hl', hW16.wtr, hX16, hk16⟩, by simp only; omega⟩
    have hib : i < (pack l').length := by omega
    obtain ⟨g8, cur8, rfl, hB8, hz8⟩ := hS16.blk (by omega)
    have hg8 := hf13 _ rfl
    simp only at hg8
    refine k_skip ?_
    refine k_seq ?_
    refine k_block ?_
    refine k_seq ?_
    refine k_region ?_
    refine m_int rfl rfl ?_
    refine m_int rfl rfl ?_
    refine o_nil ?_
    refine k_region ?_
    refine m_sl rfl rfl ?_
    refine m_int rfl rfl ?_
    refine o_ixs1 Try.underlying25 rfl rfl rfl hib ?_
    refine o_ld rfl rfl (hS16.rd.cellK (Keep.refl _ _) (u8_at xs i (by omega))) ?_
    refine v8_add (b := 1#8) rfl rfl ?_
    refine o_ixs1 Try.underlying25 rfl rfl rfl hib ?_
    refine o_st (v := .int _ _) rfl rfl rfl rfl hB8 (by omega) (fun w17 hB17 hK17 hZ17 => ?_)
    have hS17 := hS16.set hib hB8 hB17
    rw [u8_set] at hS17
    refine o_nil ?_
    refine k_blk ?_
    refine k_region ?_
    refine n_add rfl rfl (by omega) ?_
    refine m_int rfl rfl ?_
    refine o_nil ?_
    refine k_goal ⟨(i + 1, _), ⟨rfl, rfl, rfl, rfl, rfl, rfl, rfl, rfl, trivial⟩, ⟨by simp only; omega, hS17, hW16.up hK17 (by simpa using hg8), hX16.low hB8 hK17, hk16.tr1 hK17 (by have := hk12.size; omega)⟩, by simp only; omega⟩
end Go.Proofs.Ytpmlhlefhmgpfaa
