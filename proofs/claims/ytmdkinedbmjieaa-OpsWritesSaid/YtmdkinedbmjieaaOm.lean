/- Ops: the fixed calls. No condition. -/
import Derived.Test.YtmdkinedbmjieaaOl
namespace Go.Proofs.Ytmdkinedbmjieaa
open Go.RowKit E
set_option linter.unusedVariables false
set_option linter.unusedSimpArgs false
set_option maxRecDepth 100000
attribute [local irreducible] ow qw kw kq cw opW Ret
def fA : Bs := [16#8, 5#8, 167#8, 255#8, 254#8]
def fB : Bs := [167#8, 0#8, 1#8]
def fC : Bs := [255#8]
def fL : List Ins := [⟨0, 2, 16, 5, 0, [], []⟩, ⟨2, 3, 167, 0, 0, [], [0]⟩]
theorem rd_fA : rdFrom fA 0 = some fL := by
  rw [rdFrom_some (x := ⟨0, 2, 16, 5, 0, [], []⟩) (by decide) (by decide)]
  rw [show 0 + (2 : Int).toNat = 2 from rfl]
  rw [rdFrom_some (x := ⟨2, 3, 167, 0, 0, [], [0]⟩) (by decide) (by decide)]
  rw [rdFrom_end (by decide)]
  rfl
theorem rd_fB : rd fB = none := by
  have : rdFrom fB 0 = some [⟨0, 3, 167, 0, 0, [], [1]⟩] := by
    rw [rdFrom_some (x := ⟨0, 3, 167, 0, 0, [], [1]⟩) (by decide) (by decide), rdFrom_end (by decide)]
    rfl
  unfold rd
  rw [this]
  exact if_neg (by decide)
theorem rd_fC : rd fC = none := by
  unfold rd
  rw [rdFrom_none (by decide) (by decide)]
theorem wr_fL : wr fL = some fA := by
  have h1 := (rd_some (by decide) rd_fA (by decide) (by decide))
  have h2 : rd fA = some fL := by unfold rd; rw [rd_fA]; exact if_pos (by decide)
  have h3 : wrFrom [] fL = some fA := by decide
  unfold wr
  rw [h3]
  exact if_pos h2
theorem fixed_ok (w : World) : Ret Try.prog 8 [] w (fun v w' => v = .bool true ∧ Keep [] w w') := by
  have hA := rd_some (cs := fA) (by decide) rd_fA (by decide) (by decide)
  have hB := rd_none (cs := fB) (by decide) rd_fB
  have hC := rd_none (cs := fC) (by decide) rd_fC
  have hW := wr_yes wr_fL
  refine fn_enter (n := 61) Try.func8 rfl rfl (Nat.le_of_ble_eq_true rfl) (fun e => ?_)
  refine k_seq ?_
  refine k_region ?_
  refine m_bool rfl rfl ?_
  refine o_nil ?_
  refine k_seq ?_
  refine k_region ?_
  refine o_bsl (E := 5) (cs := (fA.map u8v).toArray) rfl (fun _ => by kernel_rfl) (fun g1 w1 hB1 hK1 hb1 hZ1 => ?_)
  refine o_call rfl rfl (read_ok w1 (some ⟨g1, 0, none⟩) 5 fA hB1.rd (by decide) (by decide)) (fun v w2 hv => ?_)
  obtain ⟨a2, c2, vs2, rfl, hS2, hX2, hf2, hK2⟩ := hv
  rw [hA.1] at hS2 hX2
  rw [hA.1, hA.2]
  refine m_any rfl rfl ?_
  refine o_extr rfl rfl ?_
  refine o_extr rfl rfl ?_
  refine m_sl rfl rfl ?_
  refine m_int rfl rfl ?_
  refine o_nil ?_
  refine k_seq ?_
  refine k_region ?_
  refine o_bsl (E := 5) (cs := (fB.map u8v).toArray) rfl (fun _ => by kernel_rfl) (fun g3 w3 hB3 hK3 hb3 hZ3 => ?_)
  refine o_call rfl rfl (read_ok w3 (some ⟨g3, 0, none⟩) 3 fB hB3.rd (by decide) (by decide)) (fun v w4 hv => ?_)
  obtain ⟨a4, c4, vs4, rfl, hS4, hX4, hf4, hK4⟩ := hv
  rw [hB.1, hB.2]
  refine m_any rfl rfl ?_
  refine o_extr rfl rfl ?_
  refine o_extr rfl rfl ?_
  refine m_sl rfl rfl ?_
  refine m_int rfl rfl ?_
  refine o_nil ?_
  refine k_seq ?_
  refine k_region ?_
  refine o_bsl (E := 5) (cs := (fC.map u8v).toArray) rfl (fun _ => by kernel_rfl) (fun g5 w5 hB5 hK5 hb5 hZ5 => ?_)
  refine o_call rfl rfl (read_ok w5 (some ⟨g5, 0, none⟩) 1 fC hB5.rd (by decide) (by decide)) (fun v w6 hv => ?_)
  obtain ⟨a6, c6, vs6, rfl, hS6, hX6, hf6, hK6⟩ := hv
  rw [hC.1, hC.2]
  have hK26 : Keep [] w2 w6 := ((hK3.tr hK4).tr hK5).tr hK6
  have hR6 := hS2.rd.new hK26
  have hX6' : Rows (GR w6) vs2 fL := hX2.mono (fun v l hv => hv.gr.new hK26)
  refine m_any rfl rfl ?_
  refine o_extr rfl rfl ?_
  refine o_extr rfl rfl ?_
  refine m_sl rfl rfl ?_
  refine m_int rfl rfl ?_
  refine o_nil ?_
  refine k_seq ?_
  refine k_region ?_
  refine m_sl rfl rfl ?_
  refine o_call rfl rfl (write_ok w6 a2 c2 vs2 fL hR6 hX6' (by decide) (by decide)) (fun v w7 hv => ?_)
  obtain ⟨a7, c7, rfl, hS7, hf7, hK7⟩ := hv
  rw [hW.1, hW.2]
  refine m_any rfl rfl ?_
  refine o_extr rfl rfl ?_
  refine o_extr rfl rfl ?_
  refine m_sl rfl rfl ?_
  refine m_int rfl rfl ?_
  refine o_nil ?_
  refine k_seq ?_
  refine k_region ?_
  refine m_sl rfl rfl ?_
  refine o_build (v := .agg #[iv 0, iv 2, iv 16, iv 5, iv 0, .slice none 0 0, .slice none 0 0]) rfl (fun _ => by kernel_rfl) ?_
  refine o_bsl (E := 3) (cs := #[iv 0]) rfl (fun _ => by kernel_rfl) (fun g8 w8 hB8 hK8 hb8 hZ8 => ?_)
  refine o_build (v := .agg #[iv 2, iv 3, iv 167, iv 0, iv 0, .slice none 0 0, .slice (some ⟨g8, 0, none⟩) 1 1]) rfl (fun _ => by kernel_rfl) ?_
  refine o_bsl (E := 38) (cs := #[iv 0, iv 2, iv 16, iv 5, iv 0, .slice none 0 0, .slice none 0 0, iv 2, iv 3, iv 167, iv 0, iv 0, .slice none 0 0, .slice (some ⟨g8, 0, none⟩) 1 1]) rfl (fun _ => by kernel_rfl) (fun g9 w9 hB9 hK9 hb9 hZ9 => ?_)
  have hK69 : Keep [] w6 w9 := (hK7.tr hK8).tr hK9
  have hN : ∀ w, GR w (.slice none 0 0) [] := fun w => ⟨none, 0, rfl, Rd.nil _ _, by simp⟩
  have hY : Rows (GR w9) [iv 0, iv 2, iv 16, iv 5, iv 0, .slice none 0 0, .slice none 0 0, iv 2, iv 3, iv 167, iv 0, iv 0, .slice none 0 0, .slice (some ⟨g8, 0, none⟩) 1 1] fL :=
   .cons (cs := [iv 0, iv 2, iv 16, iv 5, iv 0, .slice none 0 0, .slice none 0 0]) ⟨_, _, rfl, hN _, hN _⟩ (.cons (cs := [iv 2, iv 3, iv 167, iv 0, iv 0, .slice none 0 0, .slice (some ⟨g8, 0, none⟩) 1 1]) (vs := []) ⟨_, _, rfl, hN _, ⟨_, _, rfl, (hB8.keep hK9 (by simp)).rd, by simp⟩⟩ .nil)
  refine o_call rfl rfl (rsame_ok w9 a2 (some ⟨g9, 0, none⟩) c2 2 vs2 _ fL fL (hR6.new hK69) (hX6'.mono fun v l hv => hv.new hK69) hB9.rd hY (by decide) (by decide)) (fun v w10 hv => ?_)
  obtain ⟨rfl, hK10⟩ := hv
  refine m_bool rfl rfl ?_
  refine o_true (t := 35) rfl (rfl) ?_
  refine g_yes rfl rfl ?_
  refine m_int rfl rfl ?_
  refine g_yes rfl rfl ?_
  refine b_eql rfl rfl ?_
  refine pick_t rfl rfl ?_
  refine m_bool rfl rfl ?_
  refine o_true (t := 39) rfl (rfl) ?_
  refine g_yes rfl rfl ?_
  refine m_int rfl rfl ?_
  refine g_yes rfl rfl ?_
  refine b_eql rfl rfl ?_
  refine pick_t rfl rfl ?_
  refine m_bool rfl rfl ?_
  refine o_true (t := 43) rfl (rfl) ?_
  refine g_yes rfl rfl ?_
  refine m_int rfl rfl ?_
  refine g_yes rfl rfl ?_
  refine b_eql rfl rfl ?_
  refine pick_t rfl rfl ?_
  refine m_bool rfl rfl ?_
  refine o_true (t := 47) rfl (rfl) ?_
  refine g_yes rfl rfl ?_
  refine m_sl rfl rfl ?_
  refine g_yes rfl rfl ?_
  refine o_lens Try.underlying22 rfl ?_
  refine g_yes rfl rfl ?_
  refine b_eql rfl rfl ?_
  refine pick_t rfl rfl ?_
  refine m_bool rfl rfl ?_
  refine o_true (t := 52) rfl (rfl) ?_
  refine g_yes rfl rfl ?_
  refine m_int rfl rfl ?_
  refine g_yes rfl rfl ?_
  refine b_eql rfl rfl ?_
  refine pick_t rfl rfl ?_
  refine m_bool rfl rfl ?_
  refine o_true (t := 56) rfl (rfl) ?_
  refine g_yes rfl rfl ?_
  refine m_sl rfl rfl ?_
  refine g_yes rfl rfl ?_
  refine o_call rfl rfl (at_ok w10 a2 c2 vs2 fL 2 (hR6.new (hK69.tr hK10)) (hX6'.mono fun v l hv => hv.new (hK69.tr hK10)) (by decide)) (fun v w11 hv => ?_)
  obtain ⟨rfl, hK11⟩ := hv
  refine g_yes rfl rfl ?_
  refine b_eql rfl rfl ?_
  refine pick_t rfl rfl ?_
  refine m_bool rfl rfl ?_
  refine o_nil ?_
  refine k_ret (ret_tmps (ts := [0]) (v := .bool _) rfl rfl ?_)
  exact ⟨rfl, (((((hK1.tr hK2).tr hK26).tr hK69).tr hK10).tr hK11)⟩
end Go.Proofs.Ytmdkinedbmjieaa
