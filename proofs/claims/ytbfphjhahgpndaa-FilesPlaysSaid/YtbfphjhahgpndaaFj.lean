/- The document's files: Fail, and Read. No condition beyond what each contract names. -/
import Derived.Test.YtbfphjhahgpndaaFi
import Derived.Test.YtbfphjhahgpndaaEs
namespace Go.Proofs.Ytbfphjhahgpndaa
open Go.RowKit E
set_option linter.unusedVariables false
set_option linter.unusedSimpArgs false
set_option maxRecDepth 100000
attribute [local irreducible] ow qw kw kq cw opW Ret
open Go.Maps Go.Sort
theorem inf3 : infB Try.prog 3 1 8 (.int .i64 0) := ⟨_, rfl, rfl, rfl, rfl⟩
theorem rfail_ok (lo : Nat) (w : World) (x : Nat) (gs : FS) (n : Nat) (Fl : List Int) (y : Int) (h : Ri lo w x gs n Fl) (hn : n ≤ 1000000) (hl : Fl.length ≤ 1000000) (hlo : lo ≤ w.heap.size) :
    Ret Try.prog 17 [.pointer (some ⟨x, 0, none⟩), .int .i64 y] w (fun v w' => v = .int .i64 (flE y) ∧ Ri lo w' x gs n (if flE y = 0 then Fl ++ [(n : Int) + y] else Fl) ∧ KeepT [44, 3] lo w w') := by
  have hR := h
  obtain ⟨a, c, m, af, cf, hP⟩ := h
  have bad : (y < 1 ∨ 65536 < y) → (Value.int .i64 1 = .int .i64 (flE y) ∧ Ri lo w x gs n (if flE y = 0 then Fl ++ [(n : Int) + y] else Fl) ∧ KeepT [44, 3] lo w w) := by
    intro hy
    have : flE y = 1 := by unfold flE; rw [if_pos hy]
    rw [this, if_neg (by decide)]
    exact ⟨rfl, hR, (Keep.refl [] w).t⟩
  have hF0 : Sl w.drew 3 1 af Fl.length cf (Fl.map iv) := hP.fails
  have hlt := hP.fails.lt
  have hxo : x ∉ blkOf af := hP.fails.notin hP.blk (by decide)
  have hgo : ∀ g, w.heap.size ≤ g → g ∉ blkOf af := fun g hg hm => by
    cases af with
    | none => simp [blkOf] at hm
    | some q => simp [blkOf] at hm; subst hm; have := hlt q rfl; omega
  obtain ⟨wB, hwB⟩ : ∃ wB, wB = w.heap.size := ⟨_, rfl⟩
  rw [← hwB] at hgo hlo
  refine fn_enter (n := 26) Try.func17 rfl rfl (Nat.le_of_ble_eq_true rfl) (fun e => ?_)
  refine k_seq ?_
  refine k_region ?_
  refine m_int rfl rfl ?_
  refine o_nil ?_
  refine k_seq ?_
  refine k_seq ?_
  refine k_region ?_
  refine m_int rfl rfl ?_
  refine b_lss rfl rfl ?_
  refine m_bool rfl rfl ?_
  refine o_split (t := 7) rfl (fun h => ?_) (fun h => ?_)
  ·
    have h7 := h
    refine g_no rfl rfl rfl ?_
    refine g_no rfl rfl rfl ?_
    refine pick_t rfl rfl ?_
    refine o_nil ?_
    refine k_condt rfl ?_
    refine k_seq ?_
    refine k_region ?_
    refine m_int rfl rfl ?_
    refine o_nil ?_
    refine k_ret (ret_tmps (ts := [4]) (v := .int _ _) rfl rfl ?_)
    exact bad (.inl h7)
  ·
    have h7 := h
    refine g_yes rfl rfl ?_
    refine m_int rfl rfl ?_
    refine g_yes rfl rfl ?_
    refine b_gtr rfl rfl ?_
    refine pick_f rfl rfl ?_
    refine o_nil ?_
    refine k_cond rfl (fun h => ?_) (fun h => ?_)
    ·
      refine k_seq ?_
      refine k_region ?_
      refine m_int rfl rfl ?_
      refine o_nil ?_
      refine k_ret (ret_tmps (ts := [4]) (v := .int _ _) rfl rfl ?_)
      exact bad (.inr h)
    have hy : ¬ (y < 1 ∨ 65536 < y) := by omega
    have hz : flE y = 0 := by unfold flE; rw [if_neg hy]
    refine k_skip ?_
    refine k_seq ?_
    refine k_anyG 13 (LeF (blkOf af) [fun w => Sl w 3 1 af (Fl.length + 1) cf (Fl.map iv ++ [iv ((n : Int) + y)])]) (fun iA => match iA with
        | 0 => fun v w => v = .pointer (some ⟨x, 0, none⟩)
        | 1 => fun v w => v = .pointer (some ⟨x, 0, none⟩)
        | 2 => fun v w => v = .pointer (some ⟨x, 0, none⟩)
        | 3 => fun v w => v = .pointer (some ⟨x, 2, none⟩)
        | 4 => fun v w => v = .slice af Fl.length cf
        | 5 => fun v w => v = .pointer (some ⟨x, 0, none⟩)
        | 6 => fun v w => v = .pointer (some ⟨x, 0, none⟩)
        | 7 => fun v w => v = .pointer (some ⟨x, 1, none⟩)
        | 8 => fun v w => v = .int .i64 (n : Int)
        | 9 => fun v w => v = .int .i64 y
        | 10 => fun v w => v = .int .i64 ((n : Int) + y)
        | 11 => fun v w => ∃ g, v = .slice (some ⟨g, 0, none⟩) 1 1 ∧ Blk w g #[iv ((n : Int) + y)] 3 ∧ wB ≤ g
        | 12 => fun v w => ∃ a2 c2, v = .slice a2 (Fl.length + 1) c2 ∧ Sl w 3 1 a2 (Fl.length + 1) c2 (Fl.map iv ++ [iv ((n : Int) + y)]) ∧ ((a2 = af ∧ c2 = cf) ∨ ∃ g, a2 = some ⟨g, 0, none⟩ ∧ wB ≤ g)
        | _ => fun v w => True) [] (fun D w' => D 12 = false → Sl w' 3 1 af Fl.length cf (Fl.map iv)) rfl rfl rfl rfl rfl (LeF.refl _ _) (fun _ _ _ h1 h2 => h1.tr h2) ?_ (fun _ h => by simp at h) (fun _ => hF0) ?_ ?_
    · intro iA v w w' h hL
      match iA, h with
      | 0, h =>
        exact h
      | 1, h =>
        exact h
      | 2, h =>
        exact h
      | 3, h =>
        exact h
      | 4, h =>
        exact h
      | 5, h =>
        exact h
      | 6, h =>
        exact h
      | 7, h =>
        exact h
      | 8, h =>
        exact h
      | 9, h =>
        exact h
      | 10, h =>
        exact h
      | 11, h =>
        obtain ⟨g, h1, h2, h3⟩ := h
        exact ⟨g, h1, h2.keep hL.1 (hgo g h3), h3⟩
      | 12, h =>
        obtain ⟨a2, c2, h1, h2, h3⟩ := h
        refine ⟨a2, c2, h1, ?_, h3⟩
        rcases h3 with ⟨rfl, rfl⟩ | ⟨g, rfl, h5⟩
        · exact hL.2 _ (List.mem_singleton.2 rfl) h2
        · exact h2.keep hL.1 (fun z hz => by cases hz; exact hgo g h5)
      | _ + 13, h => trivial
    · intro iA o him hl D eA wA hDi hdp hSh hG hL hA hD
      match iA, him, hl with
      | 0, _, hl =>
        obtain rfl := Option.some.inj hl
        refine o_gen [(0, _)] ⟨hA 0 (free_of rfl), trivial⟩ (fun e2 => ?_)
        refine m_ptr rfl rfl ?_
        refine o_nil ⟨LeF.refl _ _ _, rfl, fun h => by simp at h, hG⟩
      | 1, _, hl =>
        obtain rfl := Option.some.inj hl
        refine o_gen [(0, _)] ⟨hA 0 (free_of rfl), trivial⟩ (fun e2 => ?_)
        refine m_ptr rfl rfl ?_
        refine o_nil ⟨LeF.refl _ _ _, rfl, fun h => by simp at h, hG⟩
      | 2, _, hl =>
        obtain rfl := Option.some.inj hl
        refine o_gen [(12, _)] ⟨hD 1 (by decide) 12 rfl, trivial⟩ (fun e2 => ?_)
        refine o_nilc rfl ?_
        refine o_nil ⟨LeF.refl _ _ _, rfl, fun h => by simp at h, hG⟩
      | 3, _, hl =>
        obtain rfl := Option.some.inj hl
        refine o_gen [(13, _)] ⟨hD 2 (by decide) 13 rfl, trivial⟩ (fun e2 => ?_)
        refine o_fld (off := 2) rfl rfl ?_
        refine o_nil ⟨LeF.refl _ _ _, rfl, fun h => by simp at h, hG⟩
      | 4, _, hl =>
        obtain rfl := Option.some.inj hl
        refine o_gen [(14, _)] ⟨hD 3 (by decide) 14 rfl, trivial⟩ (fun e2 => ?_)
        refine o_ld rfl rfl ((hP.blk.keep (w' := wA) ((Keep.refl (blkOf af) w).drew.trans hL.1 (fun _ hb _ => hb)) hxo).at rfl) ?_
        refine o_nil ⟨LeF.refl _ _ _, rfl, fun h => by simp at h, hG⟩
      | 5, _, hl =>
        obtain rfl := Option.some.inj hl
        refine o_gen [(0, _)] ⟨hA 0 (free_of rfl), trivial⟩ (fun e2 => ?_)
        refine m_ptr rfl rfl ?_
        refine o_nil ⟨LeF.refl _ _ _, rfl, fun h => by simp at h, hG⟩
      | 6, _, hl =>
        obtain rfl := Option.some.inj hl
        refine o_gen [(16, _)] ⟨hD 5 (by decide) 16 rfl, trivial⟩ (fun e2 => ?_)
        refine o_nilc rfl ?_
        refine o_nil ⟨LeF.refl _ _ _, rfl, fun h => by simp at h, hG⟩
      | 7, _, hl =>
        obtain rfl := Option.some.inj hl
        refine o_gen [(17, _)] ⟨hD 6 (by decide) 17 rfl, trivial⟩ (fun e2 => ?_)
        refine o_fld (off := 1) rfl rfl ?_
        refine o_nil ⟨LeF.refl _ _ _, rfl, fun h => by simp at h, hG⟩
      | 8, _, hl =>
        obtain rfl := Option.some.inj hl
        refine o_gen [(18, _)] ⟨hD 7 (by decide) 18 rfl, trivial⟩ (fun e2 => ?_)
        refine o_ld rfl rfl ((hP.blk.keep (w' := wA) ((Keep.refl (blkOf af) w).drew.trans hL.1 (fun _ hb _ => hb)) hxo).at rfl) ?_
        refine o_nil ⟨LeF.refl _ _ _, rfl, fun h => by simp at h, hG⟩
      | 9, _, hl =>
        obtain rfl := Option.some.inj hl
        refine o_gen [(1, _)] ⟨hA 1 (free_of rfl), trivial⟩ (fun e2 => ?_)
        refine m_int rfl rfl ?_
        refine o_nil ⟨LeF.refl _ _ _, rfl, fun h => by simp at h, hG⟩
      | 10, _, hl =>
        obtain rfl := Option.some.inj hl
        refine o_gen [(19, _), (20, _)] ⟨hD 8 (by decide) 19 rfl, hD 9 (by decide) 20 rfl, trivial⟩ (fun e2 => ?_)
        refine n_add rfl rfl (by omega) ?_
        refine o_nil ⟨LeF.refl _ _ _, rfl, fun h => by simp at h, hG⟩
      | 11, _, hl =>
        obtain rfl := Option.some.inj hl
        refine o_gen [(21, _)] ⟨hD 10 (by decide) 21 rfl, trivial⟩ (fun e2 => ?_)
        refine o_bsl (E := 3) (cs := #[iv ((n : Int) + y)]) rfl (fun _ => by kernel_rfl) (fun g w6 hB6 hK6 hb6 hZ6 => ?_)
        have hsz : w.heap.size ≤ wA.heap.size := hL.1.size
        refine o_nil ⟨⟨hK6.also, fun F hF h0 => ?_⟩, ⟨g, rfl, hB6, by omega⟩, fun h => by simp at h, fun h => (hG h).keep hK6 (by simp [Off])⟩
        simp at hF
        subst hF
        exact h0.keep hK6 (by simp [Off])
      | 12, _, hl =>
        obtain rfl := Option.some.inj hl
        obtain ⟨g, hg, hgB, hgl⟩ := hD 11 (by decide) 22 rfl
        refine o_gen [(15, _), (22, _)] ⟨hD 4 (by decide) 15 rfl, hg, trivial⟩ (fun e2 => ?_)
        refine o_app2 Try.underlying42 inf3 rfl (by decide) rfl rfl (hG hDi) hgB.rd rfl (by simp [Value.oneCell', iv]) (by simp [maxLen]; omega) (by omega) (fun a2 c2 w6 hS6 hv6 => ?_)
        have hsz : w.heap.size ≤ wA.heap.size := hL.1.size
        rcases hv6 with ⟨rfl, rfl, hK6, hZ6⟩ | ⟨g6, rfl, hK6, hb6, hZ6⟩
        · exact o_nil ⟨⟨hK6, fun F hF h0 => by simp at hF; subst hF; exact hS6⟩, ⟨_, _, rfl, hS6, .inl ⟨rfl, rfl⟩⟩, fun h => by simp at h, fun h => by simp at h⟩
        · exact o_nil ⟨⟨hK6.also, fun F hF h0 => by simp at hF; subst hF; exact h0.keep hK6 (by simp [Off])⟩, ⟨_, _, rfl, hS6, .inr ⟨_, rfl, by omega⟩⟩, fun h => by simp at h, fun h => by simp at h⟩
      | _ + 13, him, _ => exact absurd him (by omega)
    intro D eA wA hAll hG hL hA hV hN hM
    obtain ⟨a2, c2, ha2, hS2, hl2⟩ := hV 12 (by decide) 23 rfl
    have hKA : Keep (blkOf af) w wA := (Keep.refl (blkOf af) w).drew.trans hL.1 (fun _ hb _ => hb)
    refine o_gen [(11, .pointer (some ⟨x, 0, none⟩)), (23, .slice a2 (Fl.length + 1) c2)] ⟨hV 0 (by decide) 11 rfl, ha2, trivial⟩ (fun e3 => ?_)
    have hBA := hP.blk.keep hKA hxo
    refine o_nilc rfl ?_
    refine o_fld (off := 2) rfl rfl ?_
    refine o_st (v := .slice a2 (Fl.length + 1) c2) rfl rfl rfl rfl hBA (by simp) (fun w3 hB3 hK3 hZ3 => ?_)
    refine o_nil ?_
    refine k_seq ?_
    refine k_region ?_
    refine m_int rfl rfl ?_
    refine o_nil ?_
    refine k_ret (ret_tmps (ts := [4]) (v := .int _ _) rfl rfl ?_)
    have hx3 : ∀ E, E ≠ 44 → ∀ {a : Option Addr} {sz m c : Nat} {xs : List Value}, Sl wA E sz a m c xs → Sl w3 E sz a m c xs := fun E hE a sz m c xs hs => hs.keep hK3 (hs.off hBA hE)
    have hkA : KeepT [44, 3] lo w wA := hKA.ts hP.fails hP.lowf (by simp)
    have hk3 : KeepT [44, 3] lo w w3 := hkA.tr (hK3.t1 hP.low hBA (by simp))
    have hlen : (Fl ++ [(n : Int) + y]).length = Fl.length + 1 := by simp
    rw [hz, if_pos rfl]
    refine ⟨rfl, ⟨a, c, m, a2, c2, ?_, hP.list.kt hk3 (by decide), ((hP.ok.kt hk3 (by decide))).mono hk3.size, ?_, hP.low, hP.lowa, ?_⟩, hk3⟩
    · rw [hlen]; exact hB3
    · rw [hlen, List.map_append]; exact hx3 3 (by decide) hS2
    · intro q hq
      rcases hl2 with ⟨rfl, rfl⟩ | ⟨g, rfl, h5⟩
      · exact hP.lowf q hq
      · cases hq; simp only; omega
end Go.Proofs.Ytbfphjhahgpndaa
