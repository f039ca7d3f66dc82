/- Ops: the reference's Write, and that it writes what the program writes; the walk of OpsWrites. No condition beyond what each contract names. -/
import Derived.Test.YtmdkinedbmjieaaQa
namespace Go.Proofs.Ytmdkinedbmjieaa
open Go.RowKit E
set_option linter.unusedVariables false
set_option linter.unusedSimpArgs false
set_option maxRecDepth 100000
attribute [local irreducible] ow qw kw kq cw opW Ret
def rwFrom (b : Bs) : List Ins → Option Bs
  | [] => some b
  | x :: l => if x.p = b.length ∧ 0 ≤ x.op ∧ x.op < 256 then
      (if (pputW (b ++ bigB 1 x.op) x (wayOf x.op.toNat)).length ≤ 4096 then rwFrom (pputW (b ++ bigB 1 x.op) x (wayOf x.op.toNat)) l else none) else none
theorem rwFrom_no {b : Bs} {x : Ins} {l : List Ins} (h : ¬ (x.p = b.length ∧ 0 ≤ x.op ∧ x.op < 256)) : rwFrom b (x :: l) = none := if_neg h
theorem rwFrom_long {b : Bs} {x : Ins} {l : List Ins} (h : ¬ (pputW (b ++ bigB 1 x.op) x (wayOf x.op.toNat)).length ≤ 4096) : rwFrom b (x :: l) = none := by
  unfold rwFrom
  by_cases h0 : x.p = b.length ∧ 0 ≤ x.op ∧ x.op < 256
  · rw [if_pos h0, if_neg h]
  · rw [if_neg h0]
theorem rwFrom_some {b : Bs} {x : Ins} {l : List Ins} (h0 : x.p = b.length ∧ 0 ≤ x.op ∧ x.op < 256) (h : (pputW (b ++ bigB 1 x.op) x (wayOf x.op.toNat)).length ≤ 4096) : rwFrom b (x :: l) = rwFrom (pputW (b ++ bigB 1 x.op) x (wayOf x.op.toNat)) l := by
  conv => lhs; unfold rwFrom
  rw [if_pos h0, if_pos h]
def rwr (l : List Ins) : Option Bs := match rwFrom [] l with
  | none => none
  | some b => if rd b = some l then some b else none
theorem pput_wr {b b' : Bs} {x : Ins} {W : Nat} (h : wrOne b x W = some b') : pputW (b ++ bigB 1 x.op) x W = b' := by
  unfold wrOne at h
  split at h
  · cases h; simp [pputW]
  · cases h; simp [pputW]
  · cases h; simp [pputW]
  · cases h; simp [pputW]
  · cases h; simp [pputW]
  · cases h; simp [pputW, bigB_one]
  · split at h
    next h1 =>
      cases h
      have : x.jumps ≠ [] := fun e => by rw [e] at h1; simp at h1
      simp [pputW, this]
    next => cases h
  · split at h
    next h1 =>
      cases h
      have : ¬ (x.jumps.length ≠ x.keys.length + 1 ∨ (x.keys.length = 0 ∧ 8 = 8)) := by
        rintro (e | e)
        · exact e h1.1
        · exact h1.2.1 (List.eq_nil_of_length_eq_zero e.1)
      unfold pputW
      rw [if_neg (by decide), if_neg (by decide), if_neg (by decide), if_neg (by decide), if_neg (by decide), if_pos (by decide), if_neg this]
    next => cases h
  · split at h
    next h1 =>
      cases h
      have : ¬ (x.jumps.length ≠ x.keys.length + 1 ∨ (x.keys.length = 0 ∧ 9 = 8)) := by
        rintro (e | e)
        · exact e h1.1
        · exact absurd e.2 (by decide)
      unfold pputW
      rw [if_neg (by decide), if_neg (by decide), if_neg (by decide), if_neg (by decide), if_neg (by decide), if_pos (by decide), if_neg this]
    next => cases h
  · cases h
    have : bigB 1 0 = [0#8] := by rw [bigB_one]; rfl
    simp [pputW, bigB_one]
  · cases h
theorem rwFrom_wr : ∀ (l : List Ins) (b b' : Bs), wrFrom b l = some b' → rwFrom b l = some b'
  | [], b, b', h => h
  | x :: l, b, b', h => by
    unfold wrFrom at h
    split at h
    next h0 =>
      split at h
      next c hc =>
        split at h
        next h4 =>
          have := pput_wr hc
          rw [rwFrom_some h0 (by rw [this]; exact h4), this]
          exact rwFrom_wr l c b' h
        next => cases h
      next => cases h
    next => cases h
theorem rwFrom_len : ∀ (l : List Ins) (b b' : Bs), b.length ≤ 4096 → rwFrom b l = some b' → b'.length ≤ 4096
  | [], b, b', hb, h => by cases h; exact hb
  | x :: l, b, b', hb, h => by
    unfold rwFrom at h
    split at h
    · split at h
      next h4 => exact rwFrom_len l _ b' h4 h
      next => cases h
    · cases h
theorem rdFrom_of_rd {b : Bs} {l : List Ins} (h : rd b = some l) : rdFrom b 0 = some l := by
  unfold rd at h
  split at h
  next => cases h
  next xs hx =>
    split at h
    · cases h; exact hx
    · cases h
theorem rwr_eq (l : List Ins) : rwr l = wr l := by
  cases hw : wr l with
  | some b =>
    unfold wr at hw
    split at hw
    next => cases hw
    next c hc =>
      split at hw
      next h1 =>
        cases hw
        unfold rwr
        rw [rwFrom_wr l [] b hc]
        exact if_pos h1
      next => cases hw
  | none =>
    cases hr : rwr l with
    | none => rfl
    | some b =>
      exfalso
      unfold rwr at hr
      split at hr
      next => cases hr
      next c hc =>
        split at hr
        next h1 =>
          cases hr
          have h4 := rwFrom_len l [] b (by simp) hc
          have := wrFrom_rd h4 l 0 (Nat.zero_le _) (rdFrom_of_rd h1)
          rw [List.take_zero] at this
          unfold wr at hw
          rw [this] at hw
          simp only [h1, if_true] at hw
          cases hw
        next => cases hr
theorem rdV_len (cs : Bs) : (rdV cs).length ≤ 4096 := by
  by_cases h : rdE cs = 0
  · obtain ⟨h4, _, hrf, _⟩ := rd_in h
    obtain ⟨f, f0, fn, ff⟩ := rdFrom_places _ 0 (Nat.zero_le _) hrf
    have := places_len ff (Nat.le_of_eq fn)
    omega
  · rw [rd_out h]; simp
def RWriteR (w : World) (l : List Ins) (v : Value) (w' : World) : Prop := ∃ a2 c2, v = .tuple #[.slice a2 (wrV l).length c2, .int .i64 (wrE l)] ∧ Rd w' a2 ((wrV l).map u8v) ∧ Keep [] w w'
theorem RWriteR.no {w w' : World} {l : List Ins} (h : rwr l = none) (hk : Keep [] w w') : RWriteR w l (.tuple #[.slice none 0 0, .int .i64 25]) w' := by
  rw [rwr_eq] at h
  have := wr_no h
  refine ⟨none, 0, ?_, ?_, hk⟩
  · rw [this.1, this.2]; rfl
  · rw [this.1]; exact Rd.nil _ _
set_option maxHeartbeats 1000000 in
theorem rwrite_ok (w : World) (a : Option Addr) (c : Nat) (vs : List Value) (l : List Ins) (hR : Rd w a vs) (hX : Rows (GR w) vs l) (hl : l.length ≤ 9223372036854775807) (hk : ∀ x ∈ l, x.keys.length + x.jumps.length ≤ 5000) (hI : ∀ x ∈ l, InI x) :
    Ret Try.prog 15 [.slice a l.length c] w (RWriteR w l) := by
  refine fn_enter (n := 61) Try.func15 rfl rfl (Nat.le_of_ble_eq_true rfl) (fun e => ?_)
  refine k_seq ?_
  refine k_region ?_
  refine m_sl rfl rfl ?_
  refine m_int rfl rfl ?_
  refine o_nil ?_
  refine k_seq ?_
  refine k_region ?_
  refine m_sl rfl rfl ?_
  refine o_nil ?_
  refine k_seq ?_
  refine k_seq ?_
  refine k_region ?_
  refine m_int rfl rfl ?_
  refine o_nil ?_
  refine k_block ?_
  refine k_loop (σ := Nat × Option Addr × Nat × Bs) (fun s => [(0, .slice a l.length c), (4, .slice s.2.1 s.2.2.2.length s.2.2.1), (5, .int .i64 (s.1 : Int))]) (fun s w' => s.1 ≤ l.length ∧ Outs w w' s.2.1 s.2.2.1 s.2.2.2 ∧ s.2.2.2.length ≤ 4096 ∧ rwFrom [] l = rwFrom s.2.2.2 (l.drop s.1)) (fun s => l.length - s.1) (0, none, 0, []) ⟨rfl, rfl, rfl, trivial⟩ ⟨Nat.zero_le _, ⟨Sl.nil _ _ _, by simp, Keep.refl _ _⟩, by simp, rfl⟩ (fun s e w1 hJ => ?_)
  obtain ⟨i, a4, c4, b⟩ := s
  obtain ⟨hi, hO, hb, hwf⟩ := hJ
  change kw _ _ _ _ (ovr [(0, .slice a l.length c), (4, .slice a4 b.length c4), (5, .int .i64 (i : Int))] e) w1
  simp only at hi hO hb hwf
  refine k_seq ?_
  refine k_seq ?_
  refine k_region ?_
  refine m_int rfl rfl ?_
  refine m_sl rfl rfl ?_
  refine o_lens Try.underlying24 rfl ?_
  refine b_lss rfl rfl ?_
  refine o_nil ?_
  refine k_cond rfl (fun h => ?_) (fun h => ?_)
  rotate_left
  ·
    have hwe : rwFrom [] l = some b := by rw [hwf, List.drop_of_length_le (by omega)]; rfl
    have hwr : rwr l = if rd b = some l then some b else none := by unfold rwr; rw [hwe]
    refine k_exit rfl ?_
    refine k_seq ?_
    refine k_region ?_
    refine m_sl rfl rfl ?_
    refine o_call rfl rfl (rread_ok w1 a4 c4 b hO.sl.rd hO.sl.le (by omega)) (fun v w2 hv => ?_)
    obtain ⟨a6, c6, vs6, rfl, hR6, hX6, hK6⟩ := hv
    have hK06 := hO.kp.tr hK6
    refine m_any rfl rfl ?_
    refine o_extr rfl rfl ?_
    refine o_extr rfl rfl ?_
    refine m_sl rfl rfl ?_
    refine m_int rfl rfl ?_
    refine o_nil ?_
    refine k_seq ?_
    refine k_seq ?_
    refine k_region ?_
    refine m_int rfl rfl ?_
    refine b_neq rfl rfl ?_
    refine m_bool rfl rfl ?_
    refine o_split (t := 54) rfl (fun h => ?_) (fun h => ?_)
    ·
      refine g_no rfl rfl rfl ?_
      refine g_no rfl rfl rfl ?_
      refine g_no rfl rfl rfl ?_
      refine g_no rfl rfl rfl ?_
      refine pick_t rfl rfl ?_
      refine o_nil ?_
      refine k_condt rfl ?_
      refine k_seq ?_
      refine k_region ?_
      refine m_sl rfl rfl ?_
      refine m_int rfl rfl ?_
      refine o_nil ?_
      refine k_ret (ret_tmps (ts := [2, 3]) (v := .tuple #[.slice _ _ _, .int _ _]) rfl rfl ?_)
      refine RWriteR.no ?_ hK06
      have hrn : rd b = none := by
       unfold rdE at h
       rw [if_pos hb] at h
       cases hrb : rd b with
       | none => rfl
       | some y => rw [hrb] at h; exact absurd rfl h
      rw [hwr, hrn]; rfl
    ·
      have hrb := (rd_in (Decidable.of_not_not h)).2.1
      refine g_yes rfl rfl ?_
      refine m_sl rfl rfl ?_
      refine g_yes rfl rfl ?_
      refine m_sl rfl rfl ?_
      refine g_yes rfl rfl ?_
      refine o_call rfl rfl (rsame_ok w2 a a6 c c6 vs vs6 l (rdV b) (hR.new hK06) (hX.mono fun v l hv => hv.new hK06) hR6 hX6 hl (by have := rdV_len b; omega)) (fun v w3 hv => ?_)
      obtain ⟨rfl, hK3⟩ := hv
      refine g_yes rfl rfl ?_
      refine u_not rfl ?_
      refine pick_f rfl rfl ?_
      refine o_nil ?_
      refine k_cond rfl (fun h => ?_) (fun h => ?_)
      ·
        refine k_seq ?_
        refine k_region ?_
        refine m_sl rfl rfl ?_
        refine m_int rfl rfl ?_
        refine o_nil ?_
        refine k_ret (ret_tmps (ts := [2, 3]) (v := .tuple #[.slice _ _ _, .int _ _]) rfl rfl ?_)
        refine RWriteR.no ?_ (hK06.tr hK3)
        rw [hwr, hrb, if_neg (fun e => h (Option.some.inj e).symm)]
      have hle : l = rdV b := Decidable.of_not_not h
      refine k_skip ?_
      refine k_seq ?_
      refine k_region ?_
      refine m_sl rfl rfl ?_
      refine m_sl rfl rfl ?_
      refine m_int rfl rfl ?_
      refine o_nil ?_
      refine k_ret (ret_tmps (ts := [2, 3]) (v := .tuple #[.slice _ _ _, .int _ _]) rfl rfl ?_)
      have hy := wr_yes (l := l) (b := b) (by rw [← rwr_eq, hwr, hrb, ← hle, if_pos rfl])
      refine ⟨a4, c4, ?_, ?_, hK06.tr hK3⟩
      · rw [hy.1, hy.2]
      · rw [hy.1]; exact hO.sl.rd.new (hK6.tr hK3)
  have hin : i < l.length := by omega
  obtain ⟨x, hx⟩ : ∃ x, l[i]? = some x := ⟨_, List.getElem?_eq_getElem hin⟩
  have hxm := List.mem_of_getElem? hx
  have hdrop : l.drop i = x :: l.drop (i + 1) := by
   rw [List.drop_eq_getElem_cons hin]
   rw [List.getElem?_eq_getElem hin] at hx
   rw [Option.some.inj hx]
  rw [hdrop] at hwf
  obtain ⟨cx, hcx, hat⟩ := hX.get hx
  have h7 := hcx.len
  have hc0 : cx[0]? = some (iv x.p) := by obtain ⟨kv, jv, rfl, _⟩ := hcx; rfl
  have hc2 : cx[2]? = some (iv x.op) := by obtain ⟨kv, jv, rfl, _⟩ := hcx; rfl
  obtain ⟨b1, o1, hae, _⟩ := hR _ _ (hat 0 _ hc0)
  subst hae
  have hno : ∀ {w' : World}, Keep [] w w' → rwFrom b (x :: l.drop (i + 1)) = none → RWriteR w l (.tuple #[.slice none 0 0, .int .i64 25]) w' := fun hK hn => RWriteR.no (by unfold rwr; rw [hwf, hn]) hK
  refine k_skip ?_
  refine k_seq ?_
  refine k_block ?_
  refine k_seq ?_
  refine k_seq ?_
  refine k_region ?_
  refine m_sl rfl rfl ?_
  refine m_int rfl rfl ?_
  refine o_ixs (sz := 7) Try.underlying24 rfl rfl rfl hin ?_
  refine o_fld0 rfl rfl ?_
  refine o_ld (v := iv x.p) rfl rfl (hR.cellK hO.kp (hat 0 _ hc0)) ?_
  refine m_sl rfl rfl ?_
  refine o_lens Try.underlying22 rfl ?_
  refine b_neq rfl rfl ?_
  refine m_bool rfl rfl ?_
  refine o_split (t := 22) rfl (fun h => ?_) (fun h => ?_)
  ·
    refine g_no rfl rfl rfl ?_
    refine g_no rfl rfl rfl ?_
    refine g_no rfl rfl rfl ?_
    refine g_no rfl rfl rfl ?_
    refine g_no rfl rfl rfl ?_
    refine g_no rfl rfl rfl ?_
    refine pick_t rfl rfl ?_
    refine m_bool rfl rfl ?_
    refine g_no rfl rfl rfl ?_
    refine g_no rfl rfl rfl ?_
    refine g_no rfl rfl rfl ?_
    refine g_no rfl rfl rfl ?_
    refine g_no rfl rfl rfl ?_
    refine g_no rfl rfl rfl ?_
    refine pick_t rfl rfl ?_
    refine o_nil ?_
    refine k_condt rfl ?_
    refine k_seq ?_
    refine k_region ?_
    refine m_sl rfl rfl ?_
    refine m_int rfl rfl ?_
    refine o_nil ?_
    refine k_ret (ret_tmps (ts := [2, 3]) (v := .tuple #[.slice _ _ _, .int _ _]) rfl rfl ?_)
    exact hno hO.kp (rwFrom_no (fun hh => h (hh.1)))
  ·
    have h22 : x.p = b.length := Decidable.of_not_not h
    refine g_yes rfl rfl ?_
    refine m_sl rfl rfl ?_
    refine g_yes rfl rfl ?_
    refine m_int rfl rfl ?_
    refine g_yes rfl rfl ?_
    refine o_ixs (sz := 7) Try.underlying24 rfl rfl rfl hin ?_
    refine g_yes rfl rfl ?_
    refine o_fld (off := 2) rfl rfl ?_
    refine g_yes rfl rfl ?_
    refine o_ld (v := iv x.op) rfl rfl (by rw [Nat.add_assoc]; exact hR.cellK hO.kp (hat 2 _ hc2)) ?_
    refine g_yes rfl rfl ?_
    refine b_lss rfl rfl ?_
    refine pick_f rfl rfl ?_
    refine m_bool rfl rfl ?_
    refine o_split (t := 30) rfl (fun h => ?_) (fun h => ?_)
    ·
      refine g_no rfl rfl rfl ?_
      refine g_no rfl rfl rfl ?_
      refine g_no rfl rfl rfl ?_
      refine g_no rfl rfl rfl ?_
      refine g_no rfl rfl rfl ?_
      refine g_no rfl rfl rfl ?_
      refine pick_t rfl rfl ?_
      refine o_nil ?_
      refine k_condt rfl ?_
      refine k_seq ?_
      refine k_region ?_
      refine m_sl rfl rfl ?_
      refine m_int rfl rfl ?_
      refine o_nil ?_
      refine k_ret (ret_tmps (ts := [2, 3]) (v := .tuple #[.slice _ _ _, .int _ _]) rfl rfl ?_)
      exact hno hO.kp (rwFrom_no (fun hh => by omega))
    ·
      have h30 := h
      refine g_yes rfl rfl ?_
      refine m_sl rfl rfl ?_
      refine g_yes rfl rfl ?_
      refine m_int rfl rfl ?_
      refine g_yes rfl rfl ?_
      refine o_ixs (sz := 7) Try.underlying24 rfl rfl rfl hin ?_
      refine g_yes rfl rfl ?_
      refine o_fld (off := 2) rfl rfl ?_
      refine g_yes rfl rfl ?_
      refine o_ld (v := iv x.op) rfl rfl (by rw [Nat.add_assoc]; exact hR.cellK hO.kp (hat 2 _ hc2)) ?_
      refine g_yes rfl rfl ?_
      refine b_gtr rfl rfl ?_
      refine pick_f rfl rfl ?_
      refine o_nil ?_
      refine k_cond rfl (fun h => ?_) (fun h => ?_)
      ·
        refine k_seq ?_
        refine k_region ?_
        refine m_sl rfl rfl ?_
        refine m_int rfl rfl ?_
        refine o_nil ?_
        refine k_ret (ret_tmps (ts := [2, 3]) (v := .tuple #[.slice _ _ _, .int _ _]) rfl rfl ?_)
        exact hno hO.kp (rwFrom_no (fun hh => by omega))
      have hop : 0 ≤ x.op ∧ x.op < 256 := by omega
      refine k_skip ?_
      refine k_seq ?_
      refine k_region ?_
      refine m_sl rfl rfl ?_
      refine m_sl rfl rfl ?_
      refine m_int rfl rfl ?_
      refine o_ixs (sz := 7) Try.underlying24 rfl rfl rfl hin ?_
      have hld : ∀ j v, cx[j]? = some v → w1.cell? ⟨b1, o1 + i * 7 + j, none⟩ = some v := fun j v hv => by rw [Nat.add_assoc]; exact hR.cellK hO.kp (hat j v hv)
      refine o_lda (xs := cx) rfl rfl (by rw [h7]; rfl) hld ?_
      refine o_call rfl rfl (pput_ok w w1 a4 c4 b cx x hO hcx hb (hk x hxm) (hI x hxm) hop) (fun v w2 hv => ?_)
      obtain ⟨a5, c5, rfl, hO2⟩ := hv
      refine m_sl rfl rfl ?_
      refine o_nil ?_
      refine k_seq ?_
      refine k_region ?_
      refine m_sl rfl rfl ?_
      refine o_lens Try.underlying22 rfl ?_
      refine b_gtr rfl rfl ?_
      refine o_nil ?_
      refine k_cond rfl (fun h => ?_) (fun h => ?_)
      ·
        refine k_seq ?_
        refine k_region ?_
        refine m_sl rfl rfl ?_
        refine m_int rfl rfl ?_
        refine o_nil ?_
        refine k_ret (ret_tmps (ts := [2, 3]) (v := .tuple #[.slice _ _ _, .int _ _]) rfl rfl ?_)
        exact hno hO2.kp (rwFrom_long (by omega))
      refine k_skip ?_
      refine k_blk ?_
      refine k_region ?_
      refine m_int rfl rfl ?_
      refine n_add rfl rfl (by omega) ?_
      refine m_int rfl rfl ?_
      refine o_nil ?_
      refine k_goal ⟨(i + 1, a5, c5, pputW (b ++ bigB 1 x.op) x (wayOf x.op.toNat)), ⟨rfl, rfl, rfl, trivial⟩, ⟨by simp only; omega, hO2, by simp only; omega, ?_⟩, by simp only; omega⟩
      simp only
      rw [hwf, rwFrom_some ⟨h22, hop⟩ (by omega)]
set_option maxHeartbeats 1000000 in
theorem writes_ok (w : World) (a1 : Option Addr) (m c1 : Nat) (vs : List Value) (l : List Ins) (hm : l.length = m) (hV : Rd w a1 vs) (hX : Rows (GR w) vs l) (hml : m ≤ 9223372036854775807) (hB : ∀ x ∈ l, InB x) (hI : ∀ x ∈ l, InI x) :
    Ret Try.prog 4 [.slice a1 m c1] w (fun v w' => v = .bool true ∧ Keep [] w w') := by
  subst hm
  refine fn_enter (n := 30) Try.func4 rfl rfl (Nat.le_of_ble_eq_true rfl) (fun e => ?_)
  refine k_seq ?_
  refine k_region ?_
  refine m_bool rfl rfl ?_
  refine o_nil ?_
  refine k_seq ?_
  refine k_seq ?_
  refine k_region ?_
  refine o_call rfl rfl (fixed_ok w) (fun v w1 hv => ?_)
  obtain ⟨rfl, hK1⟩ := hv
  refine u_notb rfl ?_
  refine o_nil ?_
  refine k_condf rfl ?_
  refine k_skip ?_
  refine k_seq ?_
  refine k_seq ?_
  refine k_region ?_
  refine m_sl rfl rfl ?_
  refine o_call rfl rfl (few_ok w1 a1 c1 vs l (hV.new hK1) (hX.mono fun v l hv => hv.new hK1) hml hB) (fun v w2 hv => ?_)
  obtain ⟨fb, rfl, hK2, hfew⟩ := hv
  have hK02 := hK1.tr hK2
  refine u_notb rfl ?_
  refine o_nil ?_
  refine k_condb rfl (fun h => ?_) (fun h => ?_)
  ·
    refine k_seq ?_
    refine k_region ?_
    refine m_bool rfl rfl ?_
    refine o_nil ?_
    refine k_ret (ret_tmps (ts := [2]) (v := .bool _) rfl rfl ?_)
    exact ⟨rfl, hK02⟩
  obtain ⟨htot, hl5⟩ := hfew (by cases fb <;> simp_all)
  refine k_skip ?_
  refine k_seq ?_
  refine k_region ?_
  refine m_sl rfl rfl ?_
  refine o_call rfl rfl (write_ok w2 a1 c1 vs l (hV.new hK02) (hX.mono fun v l hv => hv.new hK02) hml (fun x hx => by have := tot_mem hx; omega)) (fun v w3 hv => ?_)
  obtain ⟨a3, c3, rfl, hS3, hf3, hK3⟩ := hv
  have hK03 := hK02.tr hK3
  refine m_any rfl rfl ?_
  refine o_extr rfl rfl ?_
  refine o_extr rfl rfl ?_
  refine m_sl rfl rfl ?_
  refine m_int rfl rfl ?_
  refine o_nil ?_
  refine k_seq ?_
  refine k_region ?_
  refine m_sl rfl rfl ?_
  refine o_call rfl rfl (rwrite_ok w3 a1 c1 vs l (hV.new hK03) (hX.mono fun v l hv => hv.new hK03) hml (fun x hx => by have := tot_mem hx; omega) hI) (fun v w4 hv => ?_)
  obtain ⟨a4, c4, rfl, hR4, hK4⟩ := hv
  refine m_any rfl rfl ?_
  refine o_extr rfl rfl ?_
  refine o_extr rfl rfl ?_
  refine m_sl rfl rfl ?_
  refine m_int rfl rfl ?_
  refine o_nil ?_
  refine k_seq ?_
  refine k_region ?_
  refine m_int rfl rfl ?_
  refine m_int rfl rfl ?_
  refine b_eql rfl rfl ?_
  refine m_bool rfl rfl ?_
  refine o_true (t := 25) rfl (rfl) ?_
  refine g_yes rfl rfl ?_
  refine m_sl rfl rfl ?_
  refine g_yes rfl rfl ?_
  refine m_sl rfl rfl ?_
  refine g_yes rfl rfl ?_
  refine o_call rfl rfl (bsame_ok w4 a3 a4 c3 c4 (wrV l) (wrV l) (hS3.rd.new hK4) hR4 (sl_max hS3)) (fun v w5 hv => ?_)
  obtain ⟨rfl, hK5⟩ := hv
  refine pick_t rfl rfl ?_
  refine m_bool rfl rfl ?_
  refine o_nil ?_
  refine k_ret (ret_tmps (ts := [2]) (v := .bool _) rfl rfl ?_)
  exact ⟨congrArg Value.bool (decide_eq_true rfl), (hK03.tr hK4).tr hK5⟩
theorem ins_of2 {H : Type} {enc : TypeId × Value → H} {W : World} {cs : List Value} (h : Tr enc Try.prog W 38 cs) (hl : cs.length = 7) : ∃ x : Ins, insC (GR W) cs x ∧ InB x ∧ InI x := by
  have ht := h.any
  obtain ⟨x0, h0, _⟩ := fld_int (P := Try.prog) (i := 0) ht Try.underlying38 rfl (by kernel_rfl) Try.underlying3
  obtain ⟨x1, h1, _⟩ := fld_int (P := Try.prog) (i := 1) ht Try.underlying38 rfl (by kernel_rfl) Try.underlying3
  obtain ⟨x2, h2, _⟩ := fld_int (P := Try.prog) (i := 2) ht Try.underlying38 rfl (by kernel_rfl) Try.underlying3
  obtain ⟨x3, h3, hb3⟩ := fld_int (P := Try.prog) (i := 3) ht Try.underlying38 rfl (by kernel_rfl) Try.underlying3
  obtain ⟨x4, h4, _⟩ := fld_int (P := Try.prog) (i := 4) ht Try.underlying38 rfl (by kernel_rfl) Try.underlying3
  simp only [IntKind.min, IntKind.max, IntKind.signed, IntKind.bits] at hb3
  have grow : ∀ {cs : List Value}, Tr enc Try.prog W 36 cs → ∃ v xs, cs = [v] ∧ GR W v xs ∧ xs.length ≤ 17592186044416 ∧ ∀ z ∈ xs, -9223372036854775808 ≤ z ∧ z ≤ 9223372036854775807 := by
    intro cs h
    obtain ⟨a, len, cap, zs, h1, h2, h4⟩ := h.row (k := .i64) (e := 3) Try.underlying36 Try.underlying3 (by kernel_rfl)
    obtain ⟨xs, h5, h6, h7, h8, h9⟩ := row_i64 h2
    rw [show Try.prog.bytesOf 3 = 8 from by kernel_rfl] at h4
    exact ⟨_, xs, h1, ⟨a, cap, by rw [h5], h8, by omega⟩, by omega, h9⟩
  obtain ⟨v5, x5, h5, g5, l5, r5⟩ := grow (h.fld (P := Try.prog) (i := 5) Try.underlying38 rfl (by kernel_rfl))
  obtain ⟨v6, x6, h6, g6, l6, _⟩ := grow (h.fld (P := Try.prog) (i := 6) Try.underlying38 rfl (by kernel_rfl))
  replace h5 := take1 h5
  replace h6 := take1 h6
  refine ⟨⟨x0, x1, x2, x3, x4, x5, x6⟩, ⟨v5, v6, ?_, g5, g6⟩, ⟨l5, l6⟩, ⟨by simpa using hb3, r5⟩⟩
  match cs, hl with
  | [c0, c1, c2, c3, c4, c5, c6], _ =>
    cases h0; cases h1; cases h2; cases h3; cases h4; cases h5; cases h6
    rfl
theorem rows_of2 {H : Type} {enc : TypeId × Value → H} {W : World} : ∀ {css : List (List Value)}, (∀ cs ∈ css, cs.length = 7) → (∀ cs ∈ css, Tr enc Try.prog W 38 cs) → ∃ l : List Ins, l.length = css.length ∧ Rows (GR W) css.flatten l ∧ (∀ x ∈ l, InB x) ∧ ∀ x ∈ l, InI x
  | [], _, _ => ⟨[], rfl, .nil, by simp, by simp⟩
  | cs :: css, h1, h2 => by
    obtain ⟨x, hx, hb, hi⟩ := ins_of2 (h2 cs (by simp)) (h1 cs (by simp))
    obtain ⟨l, hl, hr, hB, hI⟩ := rows_of2 (css := css) (fun c hc => h1 c (by simp [hc])) (fun c hc => h2 c (by simp [hc]))
    exact ⟨x :: l, by simp [hl], .cons hx hr, fun y hy => (List.mem_cons.1 hy).elim (fun e => e ▸ hb) (hB y), fun y hy => (List.mem_cons.1 hy).elim (fun e => e ▸ hi) (hI y)⟩
end Go.Proofs.Ytmdkinedbmjieaa
