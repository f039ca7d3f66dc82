/- The walk of the law BitsReads. No condition beyond what each contract names. -/
import Derived.Test.YtpmlhlefhmgpfaaBe
import Derived.Test.YtpmlhlefhmgpfaaFrx
namespace Go.Proofs.Ytpmlhlefhmgpfaa
open Go.RowKit E
set_option linter.unusedVariables false
set_option linter.unusedSimpArgs false
set_option maxRecDepth 100000
attribute [local irreducible] ow qw kw kq cw opW Ret
/-- a question as it lies in memory -/
def AskAt (w : World) (cs : List Value) : Prop := ∃ (k : BitVec 8) (n v : Int) (a : Option Addr) (c : Nat) (bs : List (BitVec 8)), cs = [.int .u8 (k.toNat : Int), .int .i64 n, .int .i64 v, .slice a bs.length c] ∧ (-9223372036854775808 ≤ n ∧ n ≤ 9223372036854775807) ∧ (-9223372036854775808 ≤ v ∧ v ≤ 9223372036854775807) ∧ Rd w a (bs.map u8v) ∧ bs.length ≤ 9223372036854775807
theorem mod3 (k : BitVec 8) (h0 : ¬ k % 3#8 = 0#8) (h1 : ¬ k % 3#8 = 1#8) : k % 3#8 = 2#8 := by
  have e : (k % 3#8).toNat = k.toNat % 3 := by rw [BitVec.toNat_umod]; rfl
  have h0' : (k % 3#8).toNat ≠ 0 := fun h => h0 (BitVec.eq_of_toNat_eq h)
  have h1' : (k % 3#8).toNat ≠ 1 := fun h => h1 (BitVec.eq_of_toNat_eq h)
  apply BitVec.eq_of_toNat_eq
  show _ = 2
  omega
/-- a reader whose memory is new since -/
def RdrF (k : Nat) (T : TypeId) (w : World) (r : Nat) (bs : List (BitVec 8)) (p : Nat) : Prop :=
  ∃ a c, Blk w r #[.slice a bs.length c, .int .i64 (p : Int)] T ∧ Sl w 5 1 a bs.length c (bs.map u8v) ∧ p ≤ 8 * bs.length ∧ bs.length ≤ 140737488355328 ∧ k ≤ r ∧ ∀ q, a = some q → k ≤ q.block
theorem RdrF.rdr {k : Nat} {T : TypeId} {w : World} {r : Nat} {bs : List (BitVec 8)} {p : Nat} (h : RdrF k T w r bs p) : Rdr T w r bs p := by
  obtain ⟨a, c, h1, h2, h3, h4, _⟩ := h
  exact ⟨a, c, h1, h2, h3, h4⟩
theorem RdrF.new {k : Nat} {T : TypeId} {w w' : World} {r : Nat} {bs : List (BitVec 8)} {p : Nat} (h : RdrF k T w r bs p) (hk : Keep [] w w') : RdrF k T w' r bs p := by
  obtain ⟨a, c, hB, hS, hp⟩ := h
  exact ⟨a, c, hB.keep hk (by simp), hS.new hk, hp⟩
theorem RdrF.low {k g : Nat} {T : TypeId} {w w' : World} {r : Nat} {bs : List (BitVec 8)} {p : Nat} (h : RdrF k T w r bs p) (hk : Keep [g] w w') (hg : g < k) : RdrF k T w' r bs p := by
  obtain ⟨a, c, hB, hS, hp, hl, hr, hq⟩ := h
  refine ⟨a, c, hB.keep hk (by simp; omega), hS.keep hk ?_, hp, hl, hr, hq⟩
  intro q hq' hm
  have := hq q hq'
  simp at hm
  omega
theorem new_okF (w : World) (a : Option Addr) (c : Nat) (bs : List (BitVec 8)) (hR : Rd w a (bs.map u8v)) (hl : bs.length ≤ 140737488355328) :
    Ret Try.prog 23 [.slice a bs.length c] w (fun v w' => ∃ r, v = .pointer (some ⟨r, 0, none⟩) ∧ RdrF w.heap.size 79 w' r bs 0 ∧ Keep [] w w') := by
  refine fn_enter (n := 8) Try.func23 rfl rfl (Nat.le_of_ble_eq_true rfl) (fun e => ?_)
  refine k_seq ?_
  refine k_region ?_
  refine m_ptr rfl rfl ?_
  refine o_nil ?_
  refine k_seq ?_
  refine k_region ?_
  refine o_bsl (E := 5) (cs := #[]) rfl (fun _ => by kernel_rfl) (fun g w1 hB1 hK1 hb1 hZ1 => ?_)
  refine m_sl rfl rfl ?_
  refine o_app Try.underlying25 inf5 rfl (by decide) rfl rfl (hB1.sl (len := 0) (sz := 1) rfl (by decide)) (hR.new hK1) (by simp) (u8_one bs) (by simp [maxLen]; omega) (by omega) (fun a2 c2 w2 hS2 hK2 hv2 => ?_)
  have hf1 : ∀ p, (some (⟨g, 0, none⟩ : Addr)) = some p → w.heap.size ≤ p.block := by intro p hp; simp at hp; subst hp; simp only; omega
  have hk2 : Keep [] w w2 := Keep.trb hK1 hK2 hf1
  refine o_build (v := .agg #[.slice a2 (0 + bs.length) c2, .int .i64 0]) rfl (fun _ => by kernel_rfl) ?_
  refine o_box rfl rfl (fun b w3 hB3 hK3 hb3 hZ3 => ?_)
  refine m_ptr rfl rfl ?_
  refine o_nil ?_
  refine k_ret (ret_tmps (ts := [2]) (v := .pointer _) rfl rfl ?_)
  refine ⟨b, rfl, ⟨a2, c2, ?_, ?_, by omega, hl, by have := hk2.size; omega, fresh_app hf1 hK1.size hv2⟩, hk2.tr hK3⟩
  · rw [Nat.zero_add] at hB3; exact hB3
  · have := hS2.new hK3
    simpa using this
theorem reads_ok (w : World) (a0 a1 : Option Addr) (n0 n1 c0 c1 : Nat) (bs : List (BitVec 8)) (css : List (List Value)) (hR : Rd w a0 (bs.map u8v)) (h0 : bs.length = n0) (hb0 : n0 ≤ 140737488355328)
    (hA : Rd w a1 css.flatten) (h1 : css.length = n1) (h4 : ∀ cs ∈ css, cs.length = 4) (hcs : ∀ cs ∈ css, AskAt w cs) (hn1 : n1 ≤ 9223372036854775807) :
    Ret Try.prog 5 [.slice a0 n0 c0, .slice a1 n1 c1] w (fun v w' => v = .bool true ∧ Keep [] w w') := by
  subst h0
  refine fn_enter (n := 122) Try.func5 rfl rfl (Nat.le_of_ble_eq_true rfl) (fun e => ?_)
  refine k_seq ?_
  refine k_region ?_
  refine m_bool rfl rfl ?_
  refine o_nil ?_
  refine k_seq ?_
  refine k_seq ?_
  refine k_region ?_
  refine o_call rfl rfl (fixed_ok w) (fun v w1 hv => ?_)
  obtain ⟨rfl, hK1⟩ := hv
  refine u_notb rfl ?_
  refine o_nil ?_
  refine k_condf rfl ?_
  refine k_skip ?_
  refine k_seq ?_
  refine k_region ?_
  refine o_bsl (E := 5) (cs := #[]) rfl (fun _ => by kernel_rfl) (fun g w2 hB2 hK2 hb2 hZ2 => ?_)
  have hk2 := hK1.tr hK2
  have hf2 : ∀ p, (some (⟨g, 0, none⟩ : Addr)) = some p → w.heap.size ≤ p.block := by intro p hp; simp at hp; subst hp; simp only; have := hK1.size; omega
  refine m_sl rfl rfl ?_
  refine o_app Try.underlying25 inf5 rfl (by decide) rfl rfl (hB2.sl (len := 0) (sz := 1) rfl (by decide)) (hR.new hk2) (by simp) (u8_one bs) (by simp [maxLen]; omega) (by omega) (fun a3 c3 w3 hS3 hK3 hv3 => ?_)
  have hk3 : Keep [] w w3 := Keep.trb hk2 hK3 hf2
  have hf3 := fresh_app hf2 hk2.size hv3
  rw [Nat.zero_add] at hS3 ⊢
  simp only [List.nil_append] at hS3
  refine m_sl rfl rfl ?_
  refine o_nil ?_
  refine k_seq ?_
  refine k_region ?_
  refine m_sl rfl rfl ?_
  refine o_call rfl rfl (new_okF w3 a3 c3 bs hS3.rd (by omega)) (fun v w4 hv => ?_)
  obtain ⟨r, rfl, hR4, hK4⟩ := hv
  have hk4 := hk3.tr hK4
  refine o_bsl (E := 5) (cs := #[]) rfl (fun _ => by kernel_rfl) (fun g5 w5 hB5 hK5 hb5 hZ5 => ?_)
  have hk5 := hk4.tr hK5
  have hf5 : ∀ p, (some (⟨g5, 0, none⟩ : Addr)) = some p → w4.heap.size ≤ p.block := by intro p hp; simp at hp; subst hp; simp only; omega
  refine m_sl rfl rfl ?_
  refine o_app Try.underlying25 inf5 rfl (by decide) rfl rfl (hB5.sl (len := 0) (sz := 1) rfl (by decide)) (hR.new hk5) (by simp) (u8_one bs) (by simp [maxLen]; omega) (by omega) (fun a6 c6 w6 hS6 hK6 hv6 => ?_)
  have hk46 : Keep [] w4 w6 := Keep.trb hK5 hK6 hf5
  have hf6 := fresh_app hf5 hK5.size hv6
  rw [Nat.zero_add] at hS6 ⊢
  simp only [List.nil_append] at hS6
  refine o_build (v := .agg #[.slice a6 bs.length c6, .int .i64 0]) rfl (fun _ => by kernel_rfl) ?_
  refine o_box rfl rfl (fun x w7 hB7 hK7 hb7 hZ7 => ?_)
  have hk47 := hk46.tr hK7
  have hk7 := hk4.tr hk47
  have hR7 := hR4.new hk47
  have hX7 : RdrF w3.heap.size 51 w7 x bs 0 := ⟨a6, c6, hB7, hS6.new hK7, by omega, hb0, by have := hK4.size; have := hk46.size; omega, fun q hq => by have := hf6 q hq; have := hK4.size; omega⟩
  have hS7 := (hS3.new hK4).new hk47
  have hlt3 := hS3.lt
  refine m_ptr rfl rfl ?_
  refine m_ptr rfl rfl ?_
  refine o_nil ?_
  refine k_seq ?_
  refine k_seq ?_
  refine k_region ?_
  refine m_sl rfl rfl ?_
  refine o_lens Try.underlying25 rfl ?_
  refine m_int rfl rfl ?_
  refine o_nil ?_
  refine k_block ?_
  refine k_loop (σ := Nat × List (BitVec 8)) (fun s => [(1, .slice a1 n1 c1), (5, .slice a3 bs.length c3), (6, .pointer (some ⟨r, 0, none⟩)), (7, .pointer (some ⟨x, 0, none⟩)), (32, .int .i64 (bs.length : Int)), (33, .int .i64 (s.1 : Int))]) (fun s w' => s.1 ≤ bs.length ∧ Sl w' 5 1 a3 bs.length c3 (s.2.map u8v) ∧ RdrF w3.heap.size 79 w' r bs 0 ∧ RdrF w3.heap.size 51 w' x bs 0 ∧ Keep [] w w') (fun s => bs.length - s.1) (0, bs) ⟨rfl, rfl, rfl, rfl, rfl, rfl, trivial⟩ ⟨by simp, hS7, hR7, hX7, hk7⟩ (fun s e w8 hJ => ?_)
  obtain ⟨i, xs⟩ := s
  obtain ⟨hi, hS8, hR8, hX8, hk8⟩ := hJ
  simp only at hi hS8
  have hxl : xs.length = bs.length := by have := hS8.1; simpa using this
  refine k_seq ?_
  refine k_region ?_
  refine b_lss rfl rfl ?_
  refine o_nil ?_
  refine k_seq ?_
  refine k_cond rfl (fun h => ?_) (fun h => ?_)
  rotate_left
  ·
    have hrx : r ≠ x := by
     obtain ⟨_, hb1⟩ := hR8.rdr.blk
     obtain ⟨_, hb2⟩ := hX8.rdr.blk
     rintro rfl
     exact absurd (hb1.ty hb2) (by decide)
    have hwr : w.heap.size ≤ r := by
     obtain ⟨_, _, _, _, _, _, h, _⟩ := hR8
     have := hk3.size
     omega
    have hwx : w.heap.size ≤ x := by
     obtain ⟨_, _, _, _, _, _, h, _⟩ := hX8
     have := hk3.size
     omega
    refine k_exit rfl ?_
    refine k_seq ?_
    refine k_seq ?_
    refine k_region ?_
    refine m_sl rfl rfl ?_
    refine o_lens Try.underlying22 rfl ?_
    refine m_int rfl rfl ?_
    refine o_nil ?_
    refine k_block ?_
    refine k_loop (σ := Nat × Nat) (fun s => [(6, .pointer (some ⟨r, 0, none⟩)), (7, .pointer (some ⟨x, 0, none⟩)), (43, .slice a1 n1 c1), (44, .int .i64 (n1 : Int)), (45, .int .i64 (s.1 : Int))]) (fun s w' => s.1 ≤ n1 ∧ Rdr 79 w' r bs s.2 ∧ Rdr 51 w' x bs s.2 ∧ Keep [] w w') (fun s => n1 - s.1) (0, 0) ⟨rfl, rfl, rfl, rfl, rfl, trivial⟩ ⟨by simp, hR8.rdr, hX8.rdr, hk8⟩ (fun s e w9 hJ => ?_)
    obtain ⟨j, p⟩ := s
    obtain ⟨hj, hR9, hX9, hk9⟩ := hJ
    simp only at hj hR9 hX9
    refine k_seq ?_
    refine k_region ?_
    refine b_lss rfl rfl ?_
    refine o_nil ?_
    refine k_seq ?_
    refine k_cond rfl (fun h => ?_) (fun h => ?_)
    rotate_left
    ·
      refine k_exit rfl ?_
      refine k_seq ?_
      refine k_region ?_
      refine m_bool rfl rfl ?_
      refine o_nil ?_
      refine k_ret (ret_tmps (ts := [4]) (v := .bool _) rfl rfl ?_)
      exact ⟨rfl, hk9⟩
    have hjn : j < css.length := by omega
    obtain ⟨k, n, v, aA, cA, bsA, hA0, hn, hv, hAr, hAl⟩ := hcs _ (List.getElem_mem hjn)
    have hA4 := h4 _ (List.getElem_mem hjn)
    have hcell := fun i v (hi : (css[j])[i]? = some v) => flatten_get css h4 j i _ v (List.getElem?_eq_getElem hjn) hi
    rw [hA0] at hcell
    obtain ⟨bA, oA, rfl, _⟩ := hA _ _ (hcell 0 _ rfl)
    refine k_skip ?_
    refine k_seq ?_
    refine k_block ?_
    refine k_seq ?_
    refine k_region ?_
    refine o_ixs (sz := 4) Try.underlying22 rfl rfl rfl (by omega) ?_
    refine o_lda (xs := [.int .u8 (k.toNat : Int), .int .i64 n, .int .i64 v, .slice aA bsA.length cA]) rfl rfl rfl (fun i u hi => by have := hA.cellK hk9 (hcell i u hi); rwa [← Nat.add_assoc] at this) ?_
    refine o_alloc (cs := #[.int .u8 0, .int .i64 0, .int .i64 0, .slice none 0 0]) ⟨_, rfl, rfl, rfl, rfl⟩ rfl (fun b w10 hB10 hK10 hb10 hZ10 => ?_)
    refine o_sta (xs := [.int .u8 (k.toNat : Int), .int .i64 n, .int .i64 v, .slice aA bsA.length cA]) rfl rfl rfl (by intro u hu; simp at hu; rcases hu with rfl | rfl | rfl | rfl <;> rfl) hB10 (by simp) (fun w11 hB11 hK11 hZ11 => ?_)
    have hk911 : Keep [] w9 w11 := hK10.tr1 hK11 (by omega)
    have hk11 := hk9.tr hk911
    have hR11 := hR9.new hk911
    have hX11 := hX9.new hk911
    have hB11 : Blk w11 b #[.int .u8 (k.toNat : Int), .int .i64 n, .int .i64 v, .slice aA bsA.length cA] 33 := hB11
    refine o_nil ?_
    refine k_seq ?_
    refine k_seq ?_
    refine k_region ?_
    refine o_fld0 rfl rfl ?_
    refine o_ld rfl rfl (by first | exact hB11.at rfl | exact hB11.kat hC rfl) ?_ 
    refine v8_rem (b := 3#8) rfl rfl (by decide) ?_
    refine o_nil ?_
    refine k_cut (σ := Nat) (fun p => [(6, .pointer (some ⟨r, 0, none⟩)), (7, .pointer (some ⟨x, 0, none⟩)), (43, .slice (some ⟨bA, oA, none⟩) n1 c1), (44, .int .i64 (n1 : Int)), (45, .int .i64 (j : Int))]) (fun p w' => Rdr 79 w' r bs p ∧ Rdr 51 w' x bs p ∧ Keep [] w w') ?_ (fun p e w12 hJ => ?_)
    ·
      refine k_block ?_
      refine k_seq ?_
      refine k_region ?_
      refine v8_eql (b := 0#8) rfl rfl ?_
      refine m_bool rfl rfl ?_
      refine o_nil ?_
      refine k_cond rfl (fun h => ?_) (fun h => ?_)
      ·
        refine k_seq ?_
        refine k_region ?_
        refine m_ptr rfl rfl ?_
        refine o_fld (off := 1) rfl rfl ?_
        refine o_ld rfl rfl (by first | exact hB11.at rfl | exact hB11.kat hC rfl) ?_ 
        refine o_call rfl rfl (take_ok w11 r p bs n hR11) (fun v w12 hv => ?_)
        obtain ⟨rfl, hR12, hK12⟩ := hv
        obtain ⟨csr, hBr⟩ := hR11.blk
        have hX12 := hX11.keep1 hBr (fun e => hrx e.symm) (by decide) hK12
        have hB12 := hB11.keep hK12 (fun hm => by simp at hm; subst hm; exact absurd (hB11.ty hBr) (by decide))
        refine m_any rfl rfl ?_
        refine o_extr rfl rfl ?_
        refine o_extr rfl rfl ?_
        refine m_int rfl rfl ?_
        refine m_int rfl rfl ?_
        refine o_nil ?_
        refine k_seq ?_
        refine k_region ?_
        refine m_ptr rfl rfl ?_
        refine o_fld (off := 1) rfl rfl ?_
        refine o_ld rfl rfl (hB12.at rfl) ?_
        refine o_call rfl rfl (rtake_ok w12 x p bs n hX12) (fun v w13 hv => ?_)
        obtain ⟨rfl, hX13, hK13⟩ := hv
        obtain ⟨csx, hBx⟩ := hX12.blk
        have hR13 := hR12.keep1 hBx hrx (by decide) hK13
        refine m_any rfl rfl ?_
        refine o_extr rfl rfl ?_
        refine o_extr rfl rfl ?_
        refine m_int rfl rfl ?_
        refine m_int rfl rfl ?_
        refine o_nil ?_
        refine k_seq ?_
        refine k_region ?_
        refine m_int rfl rfl ?_
        refine m_int rfl rfl ?_
        refine b_neq rfl rfl ?_
        refine m_bool rfl rfl ?_
        refine o_false (t := 71) rfl ((by simp)) ?_
        refine g_yes rfl rfl ?_
        refine m_int rfl rfl ?_
        refine g_yes rfl rfl ?_
        refine m_int rfl rfl ?_
        refine g_yes rfl rfl ?_
        refine b_neq rfl rfl ?_
        refine pick_f rfl rfl ?_
        refine o_nil ?_
        refine k_no rfl ((by simp)) ?_
        refine k_skip ?_
        refine k_blk ?_
        refine k_goal ⟨_, ⟨rfl, rfl, rfl, rfl, rfl, trivial⟩, hR13, hX13, (hk11.tr1 hK12 hwr).tr1 hK13 hwx⟩
      have hk0 := h
      refine k_seq ?_
      refine k_region ?_
      refine v8_eql (b := 1#8) rfl rfl ?_
      refine m_bool rfl rfl ?_
      refine o_nil ?_
      refine k_cond rfl (fun h => ?_) (fun h => ?_)
      ·
        refine k_seq ?_
        refine k_region ?_
        refine m_ptr rfl rfl ?_
        refine o_call rfl rfl (align_ok w11 r p bs hR11) (fun v w12 hv => ?_)
        obtain ⟨hR12, hK12⟩ := hv
        obtain ⟨csr, hBr⟩ := hR11.blk
        have hX12 := hX11.keep1 hBr (fun e => hrx e.symm) (by decide) hK12
        refine o_nil ?_
        refine k_region ?_
        refine m_ptr rfl rfl ?_
        refine o_call rfl rfl (ralign_ok w12 x p bs hX12) (fun v w13 hv => ?_)
        obtain ⟨hX13, hK13⟩ := hv
        obtain ⟨csx, hBx⟩ := hX12.blk
        have hR13 := hR12.keep1 hBx hrx (by decide) hK13
        refine o_nil ?_
        refine k_blk ?_
        refine k_goal ⟨_, ⟨rfl, rfl, rfl, rfl, rfl, trivial⟩, hR13, hX13, (hk11.tr1 hK12 hwr).tr1 hK13 hwx⟩
      refine k_seq ?_
      refine k_region ?_
      refine v8_eql (b := 2#8) rfl rfl ?_
      refine m_bool rfl rfl ?_
      refine o_nil ?_
      refine k_yes rfl ((mod3 k hk0 h)) ?_
      refine k_seq ?_
      refine k_region ?_
      refine m_ptr rfl rfl ?_
      refine o_fld (off := 1) rfl rfl ?_
      refine o_ld rfl rfl (by first | exact hB11.at rfl | exact hB11.kat hC rfl) ?_ 
      refine o_call rfl rfl (bytes_ok w11 r p bs n hn.2 hR11) (fun v w12 hv => ?_)
      obtain ⟨u, rfl, ⟨a12, c12, rfl, hS12, hf12⟩, hR12, hK12⟩ := hv
      obtain ⟨csr, hBr⟩ := hR11.blk
      have hX12 := hX11.keep1 hBr (fun e => hrx e.symm) (by decide) hK12
      have hB12 := hB11.keep hK12 (fun hm => by simp at hm; subst hm; exact absurd (hB11.ty hBr) (by decide))
      refine m_any rfl rfl ?_
      refine o_extr rfl rfl ?_
      refine o_extr rfl rfl ?_
      refine m_sl rfl rfl ?_
      refine m_int rfl rfl ?_
      refine o_nil ?_
      refine k_seq ?_
      refine k_region ?_
      refine m_ptr rfl rfl ?_
      refine o_fld (off := 1) rfl rfl ?_
      refine o_ld rfl rfl (hB12.at rfl) ?_
      refine o_call rfl rfl (rbytes_ok w12 x p bs n hn.2 hX12) (fun v w13 hv => ?_)
      obtain ⟨u, rfl, ⟨a13, c13, rfl, hS13, hf13⟩, hX13, hK13⟩ := hv
      obtain ⟨csx, hBx⟩ := hX12.blk
      have hR13 := hR12.keep1 hBx hrx (by decide) hK13
      have hS12' := hS12.keep hK13 (hS12.off hBx (by decide))
      have hmx := sl_max hS12
      rw [List.length_map] at hmx hS12' hS13 ⊢
      refine m_any rfl rfl ?_
      refine o_extr rfl rfl ?_
      refine o_extr rfl rfl ?_
      refine m_sl rfl rfl ?_
      refine m_int rfl rfl ?_
      refine o_nil ?_
      refine k_seq ?_
      refine k_region ?_
      refine m_int rfl rfl ?_
      refine m_int rfl rfl ?_
      refine b_neq rfl rfl ?_
      refine m_bool rfl rfl ?_
      refine o_false (t := 101) rfl ((by simp)) ?_
      refine g_yes rfl rfl ?_
      refine m_sl rfl rfl ?_
      refine g_yes rfl rfl ?_
      refine m_sl rfl rfl ?_
      refine g_yes rfl rfl ?_
      refine o_call rfl rfl (same_ok w13 a12 a13 c12 c13 _ _ hS12'.rd hS13.rd hmx) (fun v w14 hv => ?_)
      obtain ⟨rfl, hK14⟩ := hv
      refine g_yes rfl rfl ?_
      refine u_not rfl ?_
      refine pick_f rfl rfl ?_
      refine o_nil ?_
      refine k_no rfl ((by simp)) ?_
      refine k_skip ?_
      refine k_blk ?_
      refine k_goal ⟨_, ⟨rfl, rfl, rfl, rfl, rfl, trivial⟩, hR13.new hK14, hX13.new hK14, ((hk11.tr1 hK12 hwr).tr1 hK13 hwx).tr hK14⟩
    obtain ⟨hR12, hX12, hk12⟩ := hJ
    have hX12b := hX12
    obtain ⟨ax, cx, hBX, _⟩ := hX12b
    refine k_seq ?_
    refine k_qk 11 rfl rfl rfl rfl rfl ?_
    refine q_step (fun w1 hC => m_ptr rfl rfl (o_nil ⟨rfl, hC⟩)) ?_
    refine q_step (fun w1 hC => o_call rfl rfl (at_ok w1 r p bs (hR12.new hC)) (fun v w' hv => by obtain ⟨rfl, rfl⟩ := hv; exact o_nil ⟨rfl, hC⟩)) ?_
    refine q_step (fun w1 hC => m_ptr rfl rfl (o_nil ⟨rfl, hC⟩)) ?_
    refine q_step (fun w1 hC => o_nilc rfl (o_nil ⟨rfl, hC⟩)) ?_
    refine q_step (fun w1 hC => o_fld (off := 1) rfl rfl (o_nil ⟨rfl, hC⟩)) ?_
    refine q_step (fun w1 hC => o_ld rfl rfl (hBX.kat hC rfl) (o_nil ⟨rfl, hC⟩)) ?_
    refine q_step (fun w1 hC => b_neq rfl rfl (o_nil ⟨rfl, hC⟩)) ?_
    refine q_step (fun w1 hC => m_bool rfl rfl (o_nil ⟨rfl, hC⟩)) ?_
    refine q_false (t := 114) rfl ((by simp)) ?_
    refine q_step (fun w1 hC => g_yes rfl rfl (m_ptr rfl rfl (o_nil ⟨rfl, hC⟩))) ?_
    refine q_step (fun w1 hC => g_yes rfl rfl (o_call rfl rfl (left_ok w1 r p bs (hR12.new hC)) (fun v w' hv => by obtain ⟨rfl, hK⟩ := hv; exact o_nil ⟨rfl, hC.tr hK⟩))) ?_
    refine q_step (fun w1 hC => g_yes rfl rfl (m_ptr rfl rfl (o_nil ⟨rfl, hC⟩))) ?_
    refine q_nil ?_
    intro w13 hC13
    refine g_yes rfl rfl ?_
    refine o_call rfl rfl (rleft_ok w13 x p bs (hX12.new hC13)) (fun v w14 hv => ?_)
    obtain ⟨rfl, hK14⟩ := hv
    refine g_yes rfl rfl ?_
    refine b_neq rfl rfl ?_
    refine pick_f rfl rfl ?_
    refine o_nil ?_
    refine k_no rfl ((by simp)) ?_
    refine k_skip ?_
    refine k_blk ?_
    refine k_region ?_
    refine n_add rfl rfl (by omega) ?_
    refine m_int rfl rfl ?_
    refine o_nil ?_
    refine k_goal ⟨(j + 1, p), ⟨rfl, rfl, rfl, rfl, rfl, trivial⟩, ⟨by simp only; omega, (hR12.new hC13).new hK14, (hX12.new hC13).new hK14, (hk12.tr hC13).tr hK14⟩, by simp only; omega⟩
  have hib : i < bs.length := by omega
  obtain ⟨g8, cur8, rfl, hB8, hz8⟩ := hS8.blk (by omega)
  have hg8 := hlt3 _ rfl
  have hg8' := hf3 _ rfl
  simp only at hg8 hg8'
  refine k_skip ?_
  refine k_seq ?_
  refine k_block ?_
  refine k_seq ?_
  refine k_region ?_
  refine m_int rfl rfl ?_
  refine m_int rfl rfl ?_
  refine o_nil ?_
  refine k_region ?_
  refine m_sl rfl rfl ?_
  refine m_int rfl rfl ?_
  refine o_ixs1 Try.underlying25 rfl rfl rfl hib ?_
  refine o_ld rfl rfl (hS8.rd.cellK (Keep.refl _ _) (u8_at xs i (by omega))) ?_
  refine v8_add (b := 1#8) rfl rfl ?_
  refine o_ixs1 Try.underlying25 rfl rfl rfl hib ?_
  refine o_st (v := .int _ _) rfl rfl rfl rfl hB8 (by omega) (fun w9 hB9 hK9 hZ9 => ?_)
  have hS9 := hS8.set hib hB8 hB9
  rw [u8_set] at hS9
  refine o_nil ?_
  refine k_blk ?_
  refine k_region ?_
  refine n_add rfl rfl (by omega) ?_
  refine m_int rfl rfl ?_
  refine o_nil ?_
  refine k_goal ⟨(i + 1, _), ⟨rfl, rfl, rfl, rfl, rfl, rfl, trivial⟩, ⟨by simp only; omega, hS9, hR8.low hK9 hg8, hX8.low hK9 hg8, hk8.tr1 hK9 hg8'⟩, by simp only; omega⟩
end Go.Proofs.Ytpmlhlefhmgpfaa
