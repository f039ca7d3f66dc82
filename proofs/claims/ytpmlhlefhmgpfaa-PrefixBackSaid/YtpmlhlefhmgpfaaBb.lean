/- The walks of both writers. No condition beyond what each contract names. -/
import Derived.Test.YtpmlhlefhmgpfaaBa
namespace Go.Proofs.Ytpmlhlefhmgpfaa
open Go.RowKit E
set_option linter.unusedVariables false
set_option linter.unusedSimpArgs false
set_option maxRecDepth 100000
attribute [local irreducible] ow qw kw kq cw opW Ret
/-- a writer: its block, its bytes, its bits -/
def Wtr (k : Nat) (w : World) (r : Nat) (l : List Bool) : Prop :=
  ∃ a c, Blk w r #[.slice a (pack l).length c, .int .i64 (l.length : Int)] 27 ∧ Sl w 5 1 a (pack l).length c ((pack l).map u8v) ∧ k ≤ r ∧ ∀ q, a = some q → k ≤ q.block
theorem Wtr.new {k : Nat} {w w' : World} {r : Nat} {l : List Bool} (h : Wtr k w r l) (hk : Keep [] w w') : Wtr k w' r l := by
  obtain ⟨a, c, hB, hS, h1, h2⟩ := h
  exact ⟨a, c, hB.keep hk (by simp), hS.new hk, h1, h2⟩
theorem Wtr.kt {k k' : Nat} {w w' : World} {r : Nat} {l : List Bool} {Ts : List TypeId} (h : Wtr k w r l) (hk : KeepT Ts k' w w') (h27 : 27 ∉ Ts) (h5 : 5 ∉ Ts) : Wtr k w' r l := by
  obtain ⟨a, c, hB, hS, h1, h2⟩ := h
  exact ⟨a, c, hB.kt hk h27, hS.kt hk h5, h1, h2⟩
/-- what Put answers, and the bits behind it -/
def pt (l : List Bool) (n v : Int) : Int × List Bool := if n < 0 ∨ 16 < n then (1, l) else (0, l ++ vbits v n.toNat)
theorem pt_arg {l : List Bool} {n v : Int} (h : n < 0 ∨ 16 < n) : pt l n v = (1, l) := if_pos h
theorem pt_ok {l : List Bool} {m : Nat} {v : Int} (h : m ≤ 16) : pt l (m : Int) v = (0, l ++ vbits v m) := by
  unfold pt; rw [if_neg (by omega)]; rfl
def PtR (k : Nat) (w : World) (r : Nat) (l : List Bool) (n x : Int) (v : Value) (w' : World) : Prop := v = .int .i64 (pt l n x).1 ∧ Wtr k w' r (pt l n x).2 ∧ KeepT [27, 5] k w w'
theorem PtR.of {k : Nat} {w w' : World} {r : Nat} {l l' : List Bool} {n x y : Int} (h : pt l n x = (y, l')) (hW : Wtr k w' r l') (hk : KeepT [27, 5] k w w') : PtR k w r l n x (.int .i64 y) w' := by
  unfold PtR; rw [h]; exact ⟨rfl, hW, hk⟩
/-- the bytes between a round's two halves -/
structure Mid (l : List Bool) (v : Int) (n i : Nat) (bs : List (BitVec 8)) : Prop where
  bit : ∃ b0, PutInv l v n i b0 ∧ ∀ j, bitAt bs j = bitAt b0 j
  yes : l.length / 8 + i < bs.length → bs.length = max ((l.length + 7) / 8) (min (l.length / 8 + (i + 1)) ((l.length + n + 7) / 8))
  no : ¬ l.length / 8 + i < bs.length → PutInv l v n (i + 1) bs
theorem u8_app (bs : List (BitVec 8)) (x : BitVec 8) : bs.map u8v ++ [.int .u8 (x.toNat : Int)] = (bs ++ [x]).map u8v := by simp [u8v]
theorem u8_set (bs : List (BitVec 8)) (k : Nat) (x : BitVec 8) : (bs.map u8v).set k (.int .u8 (x.toNat : Int)) = (bs.set k x).map u8v := by rw [List.map_set]; rfl
theorem put_ok (k : Nat) (w : World) (r : Nat) (l : List Bool) (n v : Int) (hl : l.length ≤ 1000000000000) (h : Wtr k w r l) :
    Ret Try.prog 13 [.pointer (some ⟨r, 0, none⟩), .int .i64 n, .int .i64 v] w (fun x w' => PtR k w r l n v x w') := by
  have hW := h
  obtain ⟨a0, c0, hB, hS, hkr, hka⟩ := h
  refine fn_enter (n := 103) Try.func13 rfl rfl (Nat.le_of_ble_eq_true rfl) (fun e => ?_)
  refine k_seq ?_
  refine k_region ?_
  refine m_int rfl rfl ?_
  refine o_nil ?_
  refine k_seq ?_
  refine k_seq ?_
  refine k_region ?_
  refine m_ptr rfl rfl ?_
  refine b_eqlp Try.underlying24 rfl rfl ?_
  refine m_bool rfl rfl ?_
  refine o_false (t := 12) rfl ((by simp)) ?_
  refine g_yes rfl rfl ?_
  refine m_int rfl rfl ?_
  refine g_yes rfl rfl ?_
  refine b_lss rfl rfl ?_
  refine pick_f rfl rfl ?_
  refine m_bool rfl rfl ?_
  refine o_split (t := 16) rfl (fun h => ?_) (fun h => ?_)
  ·
    refine g_no rfl rfl rfl ?_
    refine g_no rfl rfl rfl ?_
    refine pick_t rfl rfl ?_
    refine o_nil ?_
    refine k_condt rfl ?_
    refine k_seq ?_
    refine k_region ?_
    refine m_int rfl rfl ?_
    refine o_nil ?_
    refine k_ret (ret_tmps (ts := [6]) (v := .int _ _) rfl rfl ?_)
    exact PtR.of (pt_arg (.inl h)) hW (Keep.refl _ _).t
  ·
    refine g_yes rfl rfl ?_
    refine m_int rfl rfl ?_
    refine g_yes rfl rfl ?_
    refine b_gtr rfl rfl ?_
    refine pick_f rfl rfl ?_
    refine o_nil ?_
    refine k_cond rfl (fun h => ?_) (fun h => ?_)
    ·
      refine k_seq ?_
      refine k_region ?_
      refine m_int rfl rfl ?_
      refine o_nil ?_
      refine k_ret (ret_tmps (ts := [6]) (v := .int _ _) rfl rfl ?_)
      exact PtR.of (pt_arg (.inr h)) hW (Keep.refl _ _).t
    obtain ⟨m, rfl⟩ : ∃ m : Nat, n = m := ⟨n.toNat, by omega⟩
    have hm : m ≤ 16 := by omega
    refine k_skip ?_
    refine k_seq ?_
    refine k_region ?_
    refine m_int rfl rfl ?_
    refine cv32 rfl Try.underlying77 rfl ?_
    refine m_int rfl rfl ?_
    refine cv64 rfl Try.underlying47 rfl ?_
    rw [ofN m (by omega)]
    refine v32_shln (a := 1#32) rfl rfl ?_
    refine v32_sub (b := 1#32) rfl rfl ?_
    refine v32_and rfl rfl ?_
    refine m_ptr rfl rfl ?_
    refine o_nilc rfl ?_
    refine o_fld (off := 1) rfl rfl ?_
    refine o_ld rfl rfl (hB.at rfl) ?_ 
    refine cv64 rfl Try.underlying47 rfl ?_
    refine v64_and (b := 7#64) rfl rfl ?_
    rw [and7 l.length (by omega)]
    refine v32_shln rfl rfl ?_
    have hacc := put_acc v m (l.length % 8) hm (by omega)
    generalize ((BitVec.ofInt 32 v &&& ((1#32 <<< m) - 1#32)) <<< (l.length % 8)) = acc at hacc ⊢
    refine m_int rfl rfl ?_
    refine o_nil ?_
    refine k_seq ?_
    refine k_seq ?_
    refine k_region ?_
    refine m_int rfl rfl ?_
    refine o_nil ?_
    refine k_block ?_
    refine k_loop (σ := Nat × List (BitVec 8) × Option Addr × Nat) (fun s => [(0, .pointer (some ⟨r, 0, none⟩)), (1, .int .i64 (m : Int)), (7, .int .u32 (acc.toNat : Int)), (8, .int .i64 (s.1 : Int))]) (fun s w' => s.1 ≤ 3 ∧ PutInv l v m s.1 s.2.1 ∧ Blk w' r #[.slice s.2.2.1 s.2.1.length s.2.2.2, .int .i64 (l.length : Int)] 27 ∧ Sl w' 5 1 s.2.2.1 s.2.1.length s.2.2.2 (s.2.1.map u8v) ∧ (∀ q, s.2.2.1 = some q → k ≤ q.block) ∧ KeepT [27, 5] k w w') (fun s => 3 - s.1) (0, pack l, a0, c0) ⟨rfl, rfl, rfl, rfl, trivial⟩ ⟨by simp, put_init l v m, hB, hS, hka, (Keep.refl _ _).t⟩ (fun s e w3 hJ => ?_)
    clear hB hS hka
    obtain ⟨i, bs, a, c⟩ := s
    obtain ⟨hi, hP, hB, hS, hka, hk3⟩ := hJ
    simp only at hi hP hB hS hka hk3 ⊢
    have hlen := hP.len
    refine k_seq ?_
    refine k_seq ?_
    refine k_region ?_
    refine m_int rfl rfl ?_
    refine b_lss rfl rfl ?_
    refine o_nil ?_
    refine k_cond rfl (fun h => ?_) (fun h => ?_)
    rotate_left
    ·
      obtain rfl : i = 3 := by omega
      refine k_exit rfl ?_
      refine k_seq ?_
      refine k_region ?_
      refine m_ptr rfl rfl ?_
      refine o_nilc rfl ?_
      refine o_fld (off := 1) rfl rfl ?_
      refine o_ld rfl rfl (hB.at rfl) ?_ 
      refine m_int rfl rfl ?_
      refine n_add rfl rfl (by omega) ?_
      refine o_nilc rfl ?_
      refine o_fld (off := 1) rfl rfl ?_
      refine o_st (v := .int _ _) rfl rfl rfl rfl hB (by simp) (fun w4 hB4 hK4 hZ4 => ?_)
      refine o_nil ?_
      refine k_seq ?_
      refine k_region ?_
      refine m_int rfl rfl ?_
      refine o_nil ?_
      refine k_ret (ret_tmps (ts := [6]) (v := .int _ _) rfl rfl ?_)
      have hd := put_done hm hP
      refine PtR.of (pt_ok hm) ⟨a, c, ?_, ?_, hkr, hka⟩ (hk3.tr (hK4.t1 hkr hB (by decide)))
      · rw [← hd, List.length_append, vbits_len]; exact hB4
      · rw [← hd]; exact hS.keep hK4 (hS.off hB (by decide))
    have hi3 : i < 3 := by omega
    refine k_skip ?_
    refine k_seq ?_
    refine k_block ?_
    refine k_seq ?_
    refine k_region ?_
    refine m_ptr rfl rfl ?_
    refine o_nilc rfl ?_
    refine o_fld (off := 1) rfl rfl ?_
    refine o_ld rfl rfl (hB.at rfl) ?_ 
    refine b_shrn (c := 3) rfl rfl ?_
    rw [sh3 l.length]
    refine m_int rfl rfl ?_
    refine n_add rfl rfl (by omega) ?_
    refine m_int rfl rfl ?_
    refine o_nil ?_
    refine k_seq ?_
    refine k_seq ?_
    refine k_region ?_
    refine m_int rfl rfl ?_
    refine m_ptr rfl rfl ?_
    refine o_nilc rfl ?_
    refine o_fld0 rfl rfl ?_
    refine o_ld rfl rfl (hB.at rfl) ?_ 
    refine o_lens Try.underlying25 rfl ?_
    refine b_geq rfl rfl ?_
    refine m_bool rfl rfl ?_
    refine o_split (t := 52) rfl (fun h => ?_) (fun h => ?_)
    ·
      have h52 := h
      refine g_yes rfl rfl ?_
      refine m_int rfl rfl ?_
      refine g_yes rfl rfl ?_
      refine m_ptr rfl rfl ?_
      refine g_yes rfl rfl ?_
      refine o_nilc rfl ?_
      refine g_yes rfl rfl ?_
      refine o_fld (off := 1) rfl rfl ?_
      refine g_yes rfl rfl ?_
      refine o_ld rfl rfl (hB.at rfl) ?_ 
      refine g_yes rfl rfl ?_
      refine m_int rfl rfl ?_
      refine g_yes rfl rfl ?_
      refine n_add rfl rfl (by omega) ?_
      refine g_yes rfl rfl ?_
      refine n_add rfl rfl (by omega) ?_
      refine g_yes rfl rfl ?_
      refine b_shrn (c := 3) rfl rfl ?_
      rw [show (l.length : Int) + (m : Int) + 7 = ((l.length + m + 7 : Nat) : Int) by omega, sh3 (l.length + m + 7)]
      refine g_yes rfl rfl ?_
      refine b_lss rfl rfl ?_
      refine pick_t rfl rfl ?_
      refine o_nil ?_
      refine k_cut (σ := List (BitVec 8) × Option Addr × Nat) (fun s => [(0, .pointer (some ⟨r, 0, none⟩)), (1, .int .i64 (m : Int)), (7, .int .u32 (acc.toNat : Int)), (8, .int .i64 (i : Int)), (9, .int .i64 (((l.length / 8 : Nat) : Int) + (i : Int)))]) (fun s w' => Mid l v m i s.1 ∧ Blk w' r #[.slice s.2.1 s.1.length s.2.2, .int .i64 (l.length : Int)] 27 ∧ Sl w' 5 1 s.2.1 s.1.length s.2.2 (s.1.map u8v) ∧ (∀ q, s.2.1 = some q → k ≤ q.block) ∧ KeepT [27, 5] k w w') ?_ (fun s e w3 hJ => ?_)
      ·
        refine k_cond rfl (fun h => ?_) (fun h => ?_)
        ·
          refine k_region ?_
          refine m_ptr rfl rfl ?_
          refine m_ptr rfl rfl ?_
          refine o_nilc rfl ?_
          refine o_fld0 rfl rfl ?_
          refine o_ld rfl rfl (hB.at rfl) ?_ 
          refine o_bsl (E := 5) (cs := #[.int .u8 0]) rfl (fun _ => by kernel_rfl) (fun g w4 hB4 hK4 hb4 hZ4 => ?_)
          have hBn := hB.keep hK4 (by simp)
          have hSn := hS.new hK4
          refine o_app Try.underlying25 inf5 rfl (by decide) rfl rfl hSn hB4.rd rfl (by intro u hu; simp at hu; subst hu; rfl) (by simp [maxLen]; omega) (by omega) (fun a5 c5 w5 hS5 hK5 hv5 => ?_)
          have hBm := hBn.keep hK5 (hSn.notin hBn (by decide))
          refine o_nilc rfl ?_
          refine o_fld0 rfl rfl ?_
          refine o_st (v := .slice _ _ _) rfl rfl rfl rfl hBm (by simp) (fun w6 hB6 hK6 hZ6 => ?_)
          refine o_nil ?_
          obtain ⟨hp1, hp2⟩ := put_app hP (by omega) (by omega)
          have hfr : ∀ q, a5 = some q → k ≤ q.block := fresh_app hka (by have := hk3.size; have := hK4.size; have := hW; obtain ⟨_, _, hb, _⟩ := hW; have := hb.lt; omega) hv5
          refine k_goal ⟨(bs ++ [0#8], a5, c5), ⟨rfl, rfl, rfl, rfl, rfl, trivial⟩, ⟨⟨⟨bs, hP, hp2⟩, fun _ => by rw [hp1]; omega, fun h2 => absurd h2 (by rw [hp1]; omega)⟩, ?_, ?_, hfr, ?_⟩⟩
          · simp only [List.length_append, List.length_singleton]; exact hB6
          · have := hS5.keep hK6 (hS5.off hBm (by decide))
            simp only [List.length_append, List.length_singleton]
            rw [← u8_app]
            exact this
          · exact ((hk3.tr hK4.t).tr (hK5.ts hSn hka (by decide))).tr (hK6.t1 hkr hBm (by decide))
        refine k_skip ?_
        refine k_goal ⟨(bs, a, c), ⟨rfl, rfl, rfl, rfl, rfl, trivial⟩, ⟨⟨⟨bs, hP, fun _ => rfl⟩, fun h2 => absurd h2 (by simp only; omega), fun _ => put_skip hi3 hP (by omega) (by omega)⟩, hB, hS, hka, hk3⟩⟩
      clear hB hS hka hk3 hP hlen h52 h
      clear bs a c
      obtain ⟨bs, a, c⟩ := s
      obtain ⟨hM, hB, hS, hka, hk3⟩ := hJ
      simp only at hM hB hS hka hk3
      refine k_seq ?_
      refine k_region ?_
      refine m_int rfl rfl ?_
      refine m_ptr rfl rfl ?_
      refine o_nilc rfl ?_
      refine o_fld0 rfl rfl ?_
      refine o_ld rfl rfl (hB.at rfl) ?_ 
      refine o_lens Try.underlying25 rfl ?_
      refine b_lss rfl rfl ?_
      refine o_nil ?_
      refine k_cond rfl (fun h => ?_) (fun h => ?_)
      ·
        have hkl : l.length / 8 + i < bs.length := by omega
        obtain ⟨g, cur, rfl, hG, hGs⟩ := hS.blk (by omega)
        refine k_region ?_
        refine m_ptr rfl rfl ?_
        refine o_nilc rfl ?_
        refine o_fld0 rfl rfl ?_
        refine o_ld rfl rfl (hB.at rfl) ?_ 
        refine m_int rfl rfl ?_
        refine o_ixs1 (m := l.length / 8 + i) Try.underlying25 rfl rfl rfl hkl ?_
        refine o_ld rfl rfl (hS.rd.cellK (Keep.refl _ _) (u8_at bs _ hkl)) ?_
        refine m_int rfl rfl ?_
        refine m_int rfl rfl ?_
        refine cv64 rfl Try.underlying47 rfl ?_
        refine v64_mul (a := 8#64) rfl rfl ?_
        rw [mul8 i hi3]
        refine v32_shrn rfl rfl ?_
        refine cv32_8 rfl Try.underlying5 rfl ?_
        refine v8_or rfl rfl ?_
        refine o_ixs1 (m := l.length / 8 + i) Try.underlying25 rfl rfl rfl hkl ?_
        refine o_st (v := .int _ _) rfl rfl rfl rfl hG (by omega) (fun w7 hB7 hK7 hZ7 => ?_)
        refine o_nil ?_
        refine k_blk ?_
        refine k_region ?_
        refine m_int rfl rfl ?_
        refine n_add rfl rfl (by omega) ?_
        refine m_int rfl rfl ?_
        refine o_nil ?_
        obtain ⟨b0, hP0, hbit⟩ := hM.bit
        have hgr : r ≠ g := fun e => by subst e; exact absurd (hB.ty hG) (by decide)
        refine k_goal ⟨(i + 1, _, some ⟨g, 0, none⟩, c), ⟨rfl, rfl, rfl, rfl, trivial⟩, ⟨by simp only; omega, put_set hi3 hP0 hbit (hM.yes hkl) hkl hacc, ?_, ?_, hka, hk3.tr (hK7.t1 (hka _ rfl) hG (by decide))⟩, by simp only; omega⟩
        · simp only [List.length_set]
          exact hB.keep hK7 (by simp [hgr])
        · simp only [List.length_set]
          rw [← u8_set]
          exact hS.set hkl hG hB7
      refine k_skip ?_
      refine k_blk ?_
      refine k_region ?_
      refine m_int rfl rfl ?_
      refine n_add rfl rfl (by omega) ?_
      refine m_int rfl rfl ?_
      refine o_nil ?_
      refine k_goal ⟨(i + 1, bs, a, c), ⟨rfl, rfl, rfl, rfl, trivial⟩, ⟨by simp only; omega, hM.no (by omega), hB, hS, hka, hk3⟩, by simp only; omega⟩
    ·
      have hM : Mid l v m i bs := ⟨⟨bs, hP, fun _ => rfl⟩, fun _ => by omega, fun h2 => absurd h2 (by omega)⟩
      refine g_no rfl rfl rfl ?_
      refine g_no rfl rfl rfl ?_
      refine g_no rfl rfl rfl ?_
      refine g_no rfl rfl rfl ?_
      refine g_no rfl rfl rfl ?_
      refine g_no rfl rfl rfl ?_
      refine g_no rfl rfl rfl ?_
      refine g_no rfl rfl rfl ?_
      refine g_no rfl rfl rfl ?_
      refine g_no rfl rfl rfl ?_
      refine pick_f rfl rfl ?_
      refine o_nil ?_
      refine k_condf rfl ?_
      refine k_skip ?_
      refine k_seq ?_
      refine k_region ?_
      refine m_int rfl rfl ?_
      refine m_ptr rfl rfl ?_
      refine o_nilc rfl ?_
      refine o_fld0 rfl rfl ?_
      refine o_ld rfl rfl (hB.at rfl) ?_ 
      refine o_lens Try.underlying25 rfl ?_
      refine b_lss rfl rfl ?_
      refine o_nil ?_
      refine k_cond rfl (fun h => ?_) (fun h => ?_)
      ·
        have hkl : l.length / 8 + i < bs.length := by omega
        obtain ⟨g, cur, rfl, hG, hGs⟩ := hS.blk (by omega)
        refine k_region ?_
        refine m_ptr rfl rfl ?_
        refine o_nilc rfl ?_
        refine o_fld0 rfl rfl ?_
        refine o_ld rfl rfl (hB.at rfl) ?_ 
        refine m_int rfl rfl ?_
        refine o_ixs1 (m := l.length / 8 + i) Try.underlying25 rfl rfl rfl hkl ?_
        refine o_ld rfl rfl (hS.rd.cellK (Keep.refl _ _) (u8_at bs _ hkl)) ?_
        refine m_int rfl rfl ?_
        refine m_int rfl rfl ?_
        refine cv64 rfl Try.underlying47 rfl ?_
        refine v64_mul (a := 8#64) rfl rfl ?_
        rw [mul8 i hi3]
        refine v32_shrn rfl rfl ?_
        refine cv32_8 rfl Try.underlying5 rfl ?_
        refine v8_or rfl rfl ?_
        refine o_ixs1 (m := l.length / 8 + i) Try.underlying25 rfl rfl rfl hkl ?_
        refine o_st (v := .int _ _) rfl rfl rfl rfl hG (by omega) (fun w7 hB7 hK7 hZ7 => ?_)
        refine o_nil ?_
        refine k_blk ?_
        refine k_region ?_
        refine m_int rfl rfl ?_
        refine n_add rfl rfl (by omega) ?_
        refine m_int rfl rfl ?_
        refine o_nil ?_
        obtain ⟨b0, hP0, hbit⟩ := hM.bit
        have hgr : r ≠ g := fun e => by subst e; exact absurd (hB.ty hG) (by decide)
        refine k_goal ⟨(i + 1, _, some ⟨g, 0, none⟩, c), ⟨rfl, rfl, rfl, rfl, trivial⟩, ⟨by simp only; omega, put_set hi3 hP0 hbit (hM.yes hkl) hkl hacc, ?_, ?_, hka, hk3.tr (hK7.t1 (hka _ rfl) hG (by decide))⟩, by simp only; omega⟩
        · simp only [List.length_set]
          exact hB.keep hK7 (by simp [hgr])
        · simp only [List.length_set]
          rw [← u8_set]
          exact hS.set hkl hG hB7
      refine k_skip ?_
      refine k_blk ?_
      refine k_region ?_
      refine m_int rfl rfl ?_
      refine n_add rfl rfl (by omega) ?_
      refine m_int rfl rfl ?_
      refine o_nil ?_
      refine k_goal ⟨(i + 1, bs, a, c), ⟨rfl, rfl, rfl, rfl, trivial⟩, ⟨by simp only; omega, hM.no (by omega), hB, hS, hka, hk3⟩, by simp only; omega⟩
end Go.Proofs.Ytpmlhlefhmgpfaa
