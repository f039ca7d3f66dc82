/- The walk of the law PrefixReads. No condition beyond what each contract names. -/
import Derived.Test.YtpmlhlefhmgpfaaPf
namespace Go.Proofs.Ytpmlhlefhmgpfaa
open Go.RowKit E
set_option linter.unusedVariables false
set_option linter.unusedSimpArgs false
set_option maxRecDepth 100000
attribute [local irreducible] ow qw kw kq cw opW Ret
attribute [local irreducible] rcells
theorem preads_ok (w : World) (a a2 : Option Addr) (c n2 c2 : Nat) (ls : List Int) (lone : Bool) (bs : List (BitVec 8)) (hR : Rd w a (ls.map iv)) (hl : ls.length ≤ 17592186044416) (hR2 : Rd w a2 (bs.map u8v)) (h2 : bs.length = n2) :
    Ret Try.prog 10 [.slice a ls.length c, .bool lone, .slice a2 n2 c2] w (fun v w' => v = .bool true ∧ Keep [] w w') := by
  subst h2
  refine fn_enter (n := 91) Try.func10 rfl rfl (Nat.le_of_ble_eq_true rfl) (fun e => ?_)
  refine k_seq ?_
  refine k_region ?_
  refine m_bool rfl rfl ?_
  refine o_nil ?_
  refine k_seq ?_
  refine k_seq ?_
  refine k_region ?_
  refine o_call rfl rfl (fixed5_ok w) (fun v w1 hv => ?_)
  obtain ⟨rfl, hK1⟩ := hv
  refine u_notb rfl ?_
  refine o_nil ?_
  refine k_condf rfl ?_
  refine k_skip ?_
  refine k_seq ?_
  refine k_seq ?_
  refine k_region ?_
  refine m_sl rfl rfl ?_
  refine o_lens Try.underlying25 rfl ?_
  refine b_gtr rfl rfl ?_
  refine o_nil ?_
  refine k_cond rfl (fun h => ?_) (fun h => ?_)
  ·
    refine k_seq ?_
    refine k_region ?_
    refine m_bool rfl rfl ?_
    refine o_nil ?_
    refine k_ret (ret_tmps (ts := [6]) (v := .bool _) rfl rfl ?_)
    exact ⟨rfl, hK1⟩
  have hb3 : bs.length ≤ 3000 := by omega
  refine k_skip ?_
  refine k_seq ?_
  refine k_region ?_
  refine o_bsl (E := 3) (cs := #[]) rfl (fun _ => by kernel_rfl) (fun g w2 hB2 hK2 hb2 hZ2 => ?_)
  have hk2 := hK1.tr hK2
  have hf2 : ∀ p, (some (⟨g, 0, none⟩ : Addr)) = some p → w.heap.size ≤ p.block := by intro p hp; simp at hp; subst hp; simp only; have := hK1.size; omega
  refine m_sl rfl rfl ?_
  refine o_app Try.underlying42 inf3 rfl (by decide) rfl rfl (hB2.sl (len := 0) (sz := 1) rfl (by decide)) (hR.new hk2) (by simp) (iv_one ls) (by simp [maxLen]; omega) (by omega) (fun a3 c3 w3 hS3 hK3 hv3 => ?_)
  have hk3 : Keep [] w w3 := Keep.trb hk2 hK3 hf2
  rw [Nat.zero_add] at hS3 ⊢
  simp only [List.nil_append] at hS3
  refine m_bool rfl rfl ?_
  refine o_call rfl rfl (new_ok5 w3 a3 c3 ls lone hS3.rd (by omega)) (fun v w4 hv => ?_)
  obtain ⟨hK4, p, rfl, hpn, hc⟩ := hv.e
  have hk4 := hk3.tr hK4
  refine m_any rfl rfl ?_
  refine o_extr rfl rfl ?_
  refine o_extr rfl rfl ?_
  refine m_ptr rfl rfl ?_
  refine m_int rfl rfl ?_
  refine o_nil ?_
  refine k_seq ?_
  refine k_region ?_
  refine m_sl rfl rfl ?_
  refine m_bool rfl rfl ?_
  refine o_call rfl rfl (rnew_ok w4 a c ls lone (hR.new hk4) (by omega)) (fun v w5 hv => ?_)
  obtain ⟨hK5, f, ln, sl, rfl, hd⟩ := hv.e
  have hk5 := hk4.tr hK5
  obtain ⟨z62, hz62, hz62'⟩ := z62
  refine m_any rfl rfl ?_
  refine o_extr rfl rfl ?_
  refine o_extr rfl rfl ?_
  refine o_alloc (cs := rzero.toArray) hz62 hz62' (fun b w6 hB6 hK6 hb6 hZ6 => ?_)
  refine o_sta (xs := rcells f ln sl) rfl rfl (by rw [rc_len]; rfl) (rc_one _ _ _) hB6 (by rw [rc_len]; simp [rzero_len]) (fun w7 hB7 hK7 hZ7 => ?_)
  have hB7 := sta_whole hB7 (by rw [rc_len]; simp [rzero_len])
  have hk57 : Keep [] w5 w7 := hK6.tr1 hK7 (by omega)
  have hk7 := hk5.tr hk57
  refine m_int rfl rfl ?_
  refine o_nil ?_
  refine k_seq ?_
  refine k_seq ?_
  refine k_region ?_
  refine m_int rfl rfl ?_
  refine b_neq rfl rfl ?_
  refine m_bool rfl rfl ?_
  refine o_split (t := 39) rfl (fun h => ?_) (fun h => ?_)
  ·
    refine g_no rfl rfl rfl ?_
    refine g_no rfl rfl rfl ?_
    refine pick_t rfl rfl ?_
    refine o_nil ?_
    refine k_condt rfl ?_
    refine k_seq ?_
    refine k_region ?_
    refine m_int rfl rfl ?_
    refine m_int rfl rfl ?_
    refine b_eql rfl rfl ?_
    refine m_bool rfl rfl ?_
    refine o_nil ?_
    refine k_ret (ret_tmps (ts := [6]) (v := .bool _) rfl rfl ?_)
    exact ⟨by simp, hk7⟩
  ·
    have hy0 : e5 ls lone = 0 := Decidable.not_not.1 h
    refine g_yes rfl rfl ?_
    refine m_int rfl rfl ?_
    refine g_yes rfl rfl ?_
    refine b_neq rfl rfl ?_
    refine pick_f rfl rfl ?_
    refine o_nil ?_
    refine k_no rfl ((by simp [hy0])) ?_
    refine k_skip ?_
    refine k_seq ?_
    refine k_region ?_
    refine m_sl rfl rfl ?_
    obtain ⟨r, rfl, hC⟩ := hc hy0
    obtain ⟨rfl, rfl, hRC, hsl⟩ := hd hy0
    have hC7 := (hC.new hK5).new hk57
    obtain ⟨hL15, hkL, hlL⟩ := hC7.lens
    generalize nats ls = L at *
    refine o_call rfl rfl (new_ok w7 a2 c2 bs (hR2.new hk7) (by omega)) (fun v w8 hv => ?_)
    obtain ⟨x8, rfl, hR8, hK8, hx8⟩ := hv
    have hk8 := hk7.tr hK8
    refine o_bsl (E := 5) (cs := #[]) rfl (fun _ => by kernel_rfl) (fun g9 w9 hB9 hK9 hb9 hZ9 => ?_)
    refine m_sl rfl rfl ?_
    refine o_app Try.underlying25 inf5 rfl (by decide) rfl rfl (hB9.sl (len := 0) (sz := 1) rfl (by decide)) (hR2.new (hk8.tr hK9)) (by simp) (u8_one bs) (by simp [maxLen]; omega) (by omega) (fun a10 c10 w10 hS10 hK10 hv10 => ?_)
    have hk810 : Keep [] w8 w10 := Keep.trb hK9 hK10 (by intro p hp; simp at hp; subst hp; simp only; omega)
    rw [Nat.zero_add] at hS10 ⊢
    simp only [List.nil_append] at hS10
    refine o_build (v := .agg #[.slice a10 bs.length c10, .int .i64 0]) rfl (fun _ => by kernel_rfl) ?_
    refine o_box rfl rfl (fun x w11 hB11 hK11 hb11 hZ11 => ?_)
    have hk811 := hk810.tr hK11
    have hk11 := hk8.tr hk811
    have hX11 : Rdr 51 w11 x bs 0 := ⟨a10, c10, hB11, hS10.new hK11, by omega, by omega⟩
    have hR11 := hR8.new hk811
    have hB11' := (hB7.keep hK8 (by simp)).keep hk811 (by simp)
    have hC11 := (hC7.new hK8).new hk811
    have hRC11 := ((hRC.new hk57).new hK8).new hk811
    have hrx : x8 ≠ x := by obtain ⟨cs, hcs⟩ := hR8.blk; have := hcs.lt; have := hk810.size; omega
    have hs5 := hk57.size
    have hs8 := hK8.size
    have hs10 := hk810.size
    have hwr : w.heap.size ≤ x8 := by have := hk7.size; omega
    have hwx : w.heap.size ≤ x := by have := hk8.size; omega
    have hslr : ∀ n, n < 16 → syms L n ≠ [] → ∀ q, (sl n).1 = some q → q.block ≠ x8 := fun n hn _ q hq e => by have := (hsl n hn q hq).2; omega
    have hslx : ∀ n, n < 16 → syms L n ≠ [] → ∀ q, (sl n).1 = some q → q.block ≠ x := fun n hn _ q hq e => by have := (hsl n hn q hq).2; omega
    have hbx8 : b ≠ x8 := by have := hB7.lt; omega
    have hbx : b ≠ x := by have := hB7.lt; omega
    refine m_ptr rfl rfl ?_
    refine m_ptr rfl rfl ?_
    refine o_nil ?_
    refine k_seq ?_
    refine k_seq ?_
    refine k_region ?_
    refine m_int rfl rfl ?_
    refine o_nil ?_
    refine k_block ?_
    refine k_loop (σ := Nat × Nat) (fun s => [(2, .slice a2 bs.length c2), (7, .pointer (some ⟨r, 0, none⟩)), (9, .pointer (some ⟨b, 0, none⟩)), (11, .pointer (some ⟨x8, 0, none⟩)), (12, .pointer (some ⟨x, 0, none⟩)), (13, .int .i64 (s.1 : Int))]) (fun s w' => s.1 ≤ s.2 ∧ s.2 ≤ 8 * bs.length ∧ Blk w' b (rcells (fst L) (cnt L) sl).toArray 62 ∧ CodeP w' r L ∧ RC w' L sl ∧ Rdr 79 w' x8 bs s.2 ∧ Rdr 51 w' x bs s.2 ∧ Keep [] w w') (fun s => 8 * bs.length - s.2) (0, 0) ⟨rfl, rfl, rfl, rfl, rfl, rfl, trivial⟩ ⟨by simp, by simp, hB11', hC11, hRC11, hR11, hX11, hk11⟩ (fun s e w12 hJ => ?_)
    obtain ⟨i, p⟩ := s
    obtain ⟨hip, hpb, hB12, hC12, hRC12, hR12, hX12, hk12⟩ := hJ
    simp only at hip hpb hB12 hR12 hX12
    refine k_seq ?_
    refine k_seq ?_
    refine k_region ?_
    refine m_int rfl rfl ?_
    refine m_sl rfl rfl ?_
    refine o_lens Try.underlying25 rfl ?_
    refine n_mul rfl rfl (by omega) ?_
    refine b_leq rfl rfl ?_
    refine o_nil ?_
    refine k_yes rfl ((by simp only; omega)) ?_
    refine k_skip ?_
    refine k_seq ?_
    refine k_block ?_
    refine k_seq ?_
    refine k_region ?_
    refine m_ptr rfl rfl ?_
    refine m_ptr rfl rfl ?_
    refine o_call rfl rfl (next_ok w12 r x8 L bs p hC12 hR12) (fun v w13 hv => ?_)
    obtain ⟨rfl, hR13, hK13⟩ := hv
    have hC13 := hC12.rdr hR12 hK13
    have hRC13 := hRC12.oth hK13 hslr
    obtain ⟨csr, hBr⟩ := hR12.blk
    have hX13 := hX12.keep1 hBr (fun e => hrx e.symm) (by decide) hK13
    have hB13 := hB12.keep hK13 (by simpa using hbx8)
    refine m_any rfl rfl ?_
    refine o_extr rfl rfl ?_
    refine o_extr rfl rfl ?_
    refine m_int rfl rfl ?_
    refine m_int rfl rfl ?_
    refine o_nil ?_
    refine k_seq ?_
    refine k_region ?_
    refine o_lda (xs := rcells (fst L) (cnt L) sl) rfl rfl (by rw [rc_len]; rfl) (fun j u hj => by rw [Nat.zero_add]; exact blk_agg hB13 hj) ?_
    refine m_ptr rfl rfl ?_
    refine o_call rfl rfl (rnext_ok w13 x L sl bs p hL15 hlL hkL hRC13 hX13 hslx) (fun v w14 hv => ?_)
    obtain ⟨rfl, hX14, hK14⟩ := hv
    obtain ⟨csx, hBx⟩ := hX13.blk
    have hR14 := hR13.keep1 hBx hrx (by decide) hK14
    have hC14 := hC13.kt (Ts := [51]) (k := 0) (hK14.t1 (Nat.zero_le _) hBx (by simp)) (by decide)
    have hRC14 := hRC13.oth hK14 hslx
    have hB14 := hB13.keep hK14 (by simpa using hbx)
    have hk14 := (hk12.tr1 hK13 hwr).tr1 hK14 hwx
    have hX14' := hX14
    obtain ⟨ax, cx, hBX, _⟩ := hX14'
    have hpos := nx_pos L bs (mostL L) 0 0 p hpb
    refine m_any rfl rfl ?_
    refine o_extr rfl rfl ?_
    refine o_extr rfl rfl ?_
    refine m_int rfl rfl ?_
    refine m_int rfl rfl ?_
    refine o_nil ?_
    refine k_seq ?_
    refine k_seq ?_
    refine k_qk 15 rfl rfl rfl rfl rfl ?_
    refine q_step (fun w1 hC => m_int rfl rfl (o_nil ⟨rfl, hC⟩)) ?_
    refine q_step (fun w1 hC => m_int rfl rfl (o_nil ⟨rfl, hC⟩)) ?_
    refine q_step (fun w1 hC => b_neq rfl rfl (o_nil ⟨rfl, hC⟩)) ?_
    refine q_step (fun w1 hC => m_bool rfl rfl (o_nil ⟨rfl, hC⟩)) ?_
    refine q_false (t := 75) rfl ((by simp)) ?_
    refine q_step (fun w1 hC => g_yes rfl rfl (m_int rfl rfl (o_nil ⟨rfl, hC⟩))) ?_
    refine q_step (fun w1 hC => g_yes rfl rfl (m_int rfl rfl (o_nil ⟨rfl, hC⟩))) ?_
    refine q_step (fun w1 hC => g_yes rfl rfl (b_neq rfl rfl (o_nil ⟨rfl, hC⟩))) ?_
    refine q_step (fun w1 hC => pick_f rfl rfl (o_nil ⟨rfl, hC⟩)) ?_
    refine q_step (fun w1 hC => m_bool rfl rfl (o_nil ⟨rfl, hC⟩)) ?_
    refine q_false (t := 80) rfl ((by simp)) ?_
    refine q_step (fun w1 hC => g_yes rfl rfl (m_ptr rfl rfl (o_nil ⟨rfl, hC⟩))) ?_
    refine q_step (fun w1 hC => g_yes rfl rfl (o_call rfl rfl (at_ok w1 x8 _ bs (hR14.new hC)) (fun v w' hv => by obtain ⟨rfl, rfl⟩ := hv; exact o_nil ⟨rfl, hC⟩))) ?_
    refine q_step (fun w1 hC => g_yes rfl rfl (m_ptr rfl rfl (o_nil ⟨rfl, hC⟩))) ?_
    refine q_step (fun w1 hC => g_yes rfl rfl (o_nilc rfl (o_nil ⟨rfl, hC⟩))) ?_
    refine q_step (fun w1 hC => g_yes rfl rfl (o_fld (off := 1) rfl rfl (o_nil ⟨rfl, hC⟩))) ?_
    refine q_step (fun w1 hC => g_yes rfl rfl (o_ld rfl rfl (hBX.kat hC rfl) (o_nil ⟨rfl, hC⟩))) ?_
    refine q_nil ?_
    intro w15 hC15
    refine g_yes rfl rfl ?_
    refine b_neq rfl rfl ?_
    refine pick_f rfl rfl ?_
    refine o_nil ?_
    refine k_no rfl ((by simp)) ?_
    refine k_skip ?_
    refine k_seq ?_
    refine k_region ?_
    refine m_int rfl rfl ?_
    refine b_neq rfl rfl ?_
    refine o_nil ?_
    refine k_cond rfl (fun h => ?_) (fun h => ?_)
    ·
      refine k_seq ?_
      refine k_region ?_
      refine m_bool rfl rfl ?_
      refine o_nil ?_
      refine k_ret (ret_tmps (ts := [6]) (v := .bool _) rfl rfl ?_)
      exact ⟨rfl, hk14.tr hC15⟩
    have hz : (nx L bs (mostL L) 0 0 p).2.1 = 0 := Decidable.not_not.1 h
    have hadv := hpos.2.2 hz
    refine k_skip ?_
    refine k_blk ?_
    refine k_region ?_
    refine m_int rfl rfl ?_
    refine n_add rfl rfl (by omega) ?_
    refine m_int rfl rfl ?_
    refine o_nil ?_
    refine k_goal ⟨(i + 1, (nx L bs (mostL L) 0 0 p).2.2), ⟨rfl, rfl, rfl, rfl, rfl, rfl, trivial⟩, ⟨by simp only; omega, hpos.2.1, hB14.keep hC15 (by simp), hC14.new hC15, hRC14.new hC15, hR14.new hC15, hX14.new hC15, hk14.tr hC15⟩, by simp only; omega⟩
end Go.Proofs.Ytpmlhlefhmgpfaa
