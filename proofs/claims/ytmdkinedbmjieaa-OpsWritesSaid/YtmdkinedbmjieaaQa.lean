/- Ops: the walk of the reference's put. No condition beyond what its contract names. -/
import Derived.Test.YtmdkinedbmjieaaOz
namespace Go.Proofs.Ytmdkinedbmjieaa
open Go.RowKit E
set_option linter.unusedVariables false
set_option linter.unusedSimpArgs false
set_option maxRecDepth 100000
attribute [local irreducible] ow qw kw kq cw opW Ret
theorem bigB_one (v : Int) : bigB 1 v = [BitVec.ofInt 8 v] := by
  show [((BitVec.ofInt 64 v) >>> (8 * 0)).setWidth 8] = _
  rw [dig8 v 0 (by decide)]
  simp
/-- the bytes that the reference puts -/
def pputW (b : Bs) (x : Ins) (W : Nat) : Bs :=
  if W = 2 ∨ W = 3 then b ++ bigB 1 x.a
  else if W = 4 ∨ W = 5 then b ++ bigB 2 x.a
  else if W = 10 then b ++ bigB 2 x.a ++ [BitVec.ofInt 8 x.b, 0#8]
  else if W = 6 then b ++ [BitVec.ofInt 8 x.a, BitVec.ofInt 8 x.b]
  else if W = 7 then (if x.jumps = [] then b else b ++ bigB 2 (x.jumps.getD 0 0 - x.p))
  else if W = 8 ∨ W = 9 then (if x.jumps.length ≠ x.keys.length + 1 ∨ (x.keys.length = 0 ∧ W = 8) then pad4 b else swHead b x W ++ ents x W x.keys.length)
  else b
/-- the row that grows -/
structure Outs (wS w : World) (a : Option Addr) (c : Nat) (b : Bs) : Prop where
  sl : Sl w 5 1 a b.length c (b.map u8v)
  fr : ∀ z, a = some z → wS.heap.size ≤ z.block
  kp : Keep [] wS w
theorem Outs.new {wS w w' : World} {a : Option Addr} {c : Nat} {b : Bs} (h : Outs wS w a c b) (hK : Keep [] w w') : Outs wS w' a c b := ⟨h.sl.new hK, h.fr, h.kp.tr hK⟩
theorem Outs.app {wS w w' : World} {a : Option Addr} {c : Nat} {b : Bs} (h : Outs wS w a c b) {news : Bs} {m : Nat} {a2 : Option Addr} {c2 : Nat} (hm : news.length = m) (hS : Sl w' 5 1 a2 (b.length + m) c2 (b.map u8v ++ news.map u8v)) (hK : Keep (blkOf a) w w')
    (hv : (a2 = a ∧ w'.heap.size = w.heap.size) ∨ (∃ g, a2 = some ⟨g, 0, none⟩ ∧ w.heap.size = g ∧ w'.heap.size = g + 1)) : Outs wS w' a2 c2 (b ++ news) := by
  refine ⟨?_, fresh_app h.fr h.kp.size hv, h.kp.trb hK h.fr⟩
  rw [List.length_append, List.map_append, hm]; exact hS
theorem ents_len (x : Ins) (W : Nat) : ∀ i, (ents x W i).length ≤ 8 * i
  | 0 => by simp [ents]
  | i + 1 => by
    have := ents_len x W i
    unfold ents
    rw [List.length_append, List.length_append, bigB_len]
    split
    · rw [bigB_len]; omega
    · simp only [List.length_nil]; omega
theorem pad4_eq {b : Bs} {i : Nat} (h : i = up4 b.length - b.length) : b ++ List.replicate i 0#8 = pad4 b := by subst h; rfl
def InI (x : Ins) : Prop := (-9223372036854775808 ≤ x.a ∧ x.a ≤ 9223372036854775807) ∧ ∀ k ∈ x.keys, -9223372036854775808 ≤ k ∧ k ≤ 9223372036854775807
theorem wrap64 (v : Int) : -9223372036854775808 ≤ IntKind.i64.wrap v ∧ IntKind.i64.wrap v ≤ 9223372036854775807 := by
  have hd : IntKind.i64.wrap v = if v % 18446744073709551616 ≥ 9223372036854775808 then v % 18446744073709551616 - 18446744073709551616 else v % 18446744073709551616 := by
    unfold IntKind.wrap
    simp [IntKind.signed, IntKind.bits]
  rw [hd]
  split <;> omega
set_option maxHeartbeats 4000000 in
theorem pput_ok (wS w : World) (a0 : Option Addr) (c0 : Nat) (b : Bs) (cx : List Value) (x : Ins) (hO : Outs wS w a0 c0 b) (hx : insC (GR wS) cx x) (hb : b.length ≤ 4096) (hk : x.keys.length + x.jumps.length ≤ 5000) (hi : InI x) (hop : 0 ≤ x.op ∧ x.op < 256) :
    Ret Try.prog 22 [.slice a0 b.length c0, .agg cx.toArray] w (fun v w' => ∃ a2 c2, v = .slice a2 (pputW (b ++ bigB 1 x.op) x (wayOf x.op.toNat)).length c2 ∧ Outs wS w' a2 c2 (pputW (b ++ bigB 1 x.op) x (wayOf x.op.toNat))) := by
  obtain ⟨kv, jv, rfl, ⟨ak, ck, rfl, hRk, hlk⟩, ⟨aj, cj, rfl, hRj, hlj⟩⟩ := hx
  obtain ⟨hia, hik⟩ := hi
  obtain ⟨o, ho⟩ : ∃ o : Nat, x.op = (o : Int) := ⟨x.op.toNat, by omega⟩
  have hon : x.op.toNat = o := by omega
  obtain ⟨W, hW⟩ : ∃ W, wayOf o = W := ⟨_, rfl⟩
  have hW10 : W ≤ 10 := hW ▸ wayOf_le _
  rw [hon, hW]
  refine fn_enter (n := 171) Try.func22 rfl rfl (Nat.le_of_ble_eq_true rfl) (fun e => ?_)
  refine k_seq ?_
  refine k_region ?_
  refine o_box rfl rfl (fun b3 w1 hB1 hK1 hb1 hZ1 => ?_)
  have hO1 := hO.new hK1
  refine m_sl rfl rfl ?_
  refine o_nil ?_
  refine k_seq ?_
  refine k_region ?_
  refine m_sl rfl rfl ?_
  refine o_fld (off := 2) rfl rfl ?_
  refine o_ld (v := iv x.op) rfl rfl (hB1.at rfl) ?_
  refine cv8 rfl Try.underlying5 rfl ?_
  refine o_bsl (E := 5) (cs := #[u8v (BitVec.ofInt 8 x.op)]) rfl (fun _ => by kernel_rfl) (fun g w2 hB2 hK2 hb2 hZ2 => ?_)
  have hO2 := hO1.new hK2
  have hB1' := hB1.keep hK2 (by simp)
  refine o_app Try.underlying22 inf5 rfl (by decide) rfl rfl hO2.sl hB2.rd (rfl) (by simp [u8v, Value.oneCell']) (by simp [maxLen, bigB_len]; omega) (by omega) (fun a3 c3 w3 hS3 hK3 hv3 => ?_)
  have hO3 := hO2.app (news := [BitVec.ofInt 8 x.op]) (by rfl) hS3 hK3 hv3
  have hB3 := hB1'.keep hK3 (hO2.sl.notin hB1' (by decide))
  rw [show (b).length + 1 = (b ++ [BitVec.ofInt 8 x.op]).length by simp [bigB_len, Nat.add_assoc]]
  rw [show (b).length + 1 = (b ++ [BitVec.ofInt 8 x.op]).length by simp [bigB_len, Nat.add_assoc]] at hS3
  clear hv3
  rw [← bigB_one] at hO3 hS3
  rw [← bigB_one]
  obtain ⟨b1, hb1⟩ : ∃ b1, b ++ bigB 1 x.op = b1 := ⟨_, rfl⟩
  have hl1 : b1.length = b.length + 1 := by rw [← hb1, List.length_append, bigB_len]
  rw [hb1] at hO3 hS3
  rw [hb1]
  refine m_sl rfl rfl ?_
  refine o_nil ?_
  refine k_seq ?_
  refine k_seq ?_
  refine k_region ?_
  refine o_fld (off := 2) rfl rfl ?_
  refine o_ld (v := iv x.op) rfl rfl (hB3.at rfl) ?_
  refine o_call rfl (show _ = [Value.int .i64 (o : Int)] by rw [← ho]; rfl) (rway_ok w3 o (by omega)) (fun v w5 hv => ?_)
  obtain ⟨rfl, hK5⟩ := hv
  have hO5 := hO3.new hK5
  have hB5 := hB3.keep hK5 (by simp)
  have ho256 : o < 256 := by omega
  clear hon hop hb2 hZ2 hZ1
  rw [hW]
  refine o_nil ?_
  refine k_cut (σ := Option Addr × Nat) (fun s => [(0, .slice s.1 (pputW b1 x W).length s.2)]) (fun s w' => Outs wS w' s.1 s.2 (pputW b1 x W)) ?_ (fun s e w' hJ => ?_)
  ·
    refine k_block ?_
    refine k_seq ?_
    refine k_seq ?_
    refine k_region ?_
    refine b_eql rfl rfl ?_
    refine m_bool rfl rfl ?_
    refine o_nil ?_
    refine k_cut (σ := Unit) (fun s => [(0, .slice a3 b1.length c3), (3, .pointer (some ⟨b3, 0, none⟩)), (14, .int .i64 (W : Int)), (15, .bool (decide (W = 2 ∨ W = 3)))]) (fun s w' => w' = w5) ?_ (fun s e w6 hJ => ?_)
    ·
      refine k_cond rfl (fun h => ?_) (fun h => ?_)
      ·
        refine k_skip ?_
        refine k_goal ⟨(), ⟨rfl, rfl, rfl, congrArg Value.bool (decide_eq_decide.2 (by omega)), trivial⟩, rfl⟩
      have h15 := h
      refine k_region ?_
      refine b_eql rfl rfl ?_
      refine m_bool rfl rfl ?_
      refine o_nil ?_
      refine k_goal ⟨(), ⟨rfl, rfl, rfl, congrArg Value.bool (decide_eq_decide.2 (by omega)), trivial⟩, rfl⟩
    subst hJ
    refine k_cond rfl (fun h => ?_) (fun h => ?_)
    ·
      have hw := h
      refine k_region ?_
      refine m_sl rfl rfl ?_
      refine o_fld (off := 3) rfl rfl ?_
      refine o_ld (v := iv x.a) rfl rfl (hB5.at rfl) ?_
      refine o_call rfl rfl (rput_ok w6 1 x.a (by decide) (by decide) hia) (fun v w7 hv => ?_)
      obtain ⟨a7, c7, rfl, hS7, _, hK7⟩ := hv
      have hO7 := hO5.new hK7
      have hB7 := hB5.keep hK7 (by simp)
      refine o_app Try.underlying22 inf5 rfl (by decide) rfl rfl hO7.sl hS7.rd (by simp [bigB_len]) (u8_one _) (by simp [maxLen, bigB_len]; omega) (by omega) (fun a8 c8 w8 hS8 hK8 hv8 => ?_)
      have hO8 := hO7.app (news := bigB 1 x.a) (by rw [bigB_len]) hS8 hK8 hv8
      have hB8 := hB7.keep hK8 (hO7.sl.notin hB7 (by decide))
      rw [show (b1).length + 1 = (b1 ++ bigB 1 x.a).length by simp [bigB_len, Nat.add_assoc]]
      rw [show (b1).length + 1 = (b1 ++ bigB 1 x.a).length by simp [bigB_len, Nat.add_assoc]] at hS8
      clear hv8
      refine m_sl rfl rfl ?_
      refine o_nil ?_
      refine k_blk ?_
      have hp : pputW b1 x W = b1 ++ bigB 1 x.a := by unfold pputW; rw [if_pos hw]
      refine k_goal ⟨(a8, c8), ⟨by rw [hp]; rfl, trivial⟩, by rw [hp]; exact hO8⟩
    have h15 := h
    refine k_seq ?_
    refine k_seq ?_
    refine k_region ?_
    refine b_eql rfl rfl ?_
    refine m_bool rfl rfl ?_
    refine o_nil ?_
    refine k_cut (σ := Unit) (fun s => [(0, .slice a3 b1.length c3), (3, .pointer (some ⟨b3, 0, none⟩)), (14, .int .i64 (W : Int)), (23, .bool (decide (W = 4 ∨ W = 5)))]) (fun s w' => w' = w6) ?_ (fun s e w7 hJ => ?_)
    ·
      refine k_cond rfl (fun h => ?_) (fun h => ?_)
      ·
        refine k_skip ?_
        refine k_goal ⟨(), ⟨rfl, rfl, rfl, congrArg Value.bool (decide_eq_decide.2 (by omega)), trivial⟩, rfl⟩
      have h23 := h
      refine k_region ?_
      refine b_eql rfl rfl ?_
      refine m_bool rfl rfl ?_
      refine o_nil ?_
      refine k_goal ⟨(), ⟨rfl, rfl, rfl, congrArg Value.bool (decide_eq_decide.2 (by omega)), trivial⟩, rfl⟩
    subst hJ
    refine k_cond rfl (fun h => ?_) (fun h => ?_)
    ·
      have hw := h
      refine k_region ?_
      refine m_sl rfl rfl ?_
      refine o_fld (off := 3) rfl rfl ?_
      refine o_ld (v := iv x.a) rfl rfl (hB5.at rfl) ?_
      refine o_call rfl rfl (rput_ok w7 2 x.a (by decide) (by decide) hia) (fun v w8 hv => ?_)
      obtain ⟨a8, c8, rfl, hS8, _, hK8⟩ := hv
      have hO8 := hO5.new hK8
      have hB8 := hB5.keep hK8 (by simp)
      refine o_app Try.underlying22 inf5 rfl (by decide) rfl rfl hO8.sl hS8.rd (by simp [bigB_len]) (u8_one _) (by simp [maxLen, bigB_len]; omega) (by omega) (fun a9 c9 w9 hS9 hK9 hv9 => ?_)
      have hO9 := hO8.app (news := bigB 2 x.a) (by rw [bigB_len]) hS9 hK9 hv9
      have hB9 := hB8.keep hK9 (hO8.sl.notin hB8 (by decide))
      rw [show (b1).length + 2 = (b1 ++ bigB 2 x.a).length by simp [bigB_len, Nat.add_assoc]]
      rw [show (b1).length + 2 = (b1 ++ bigB 2 x.a).length by simp [bigB_len, Nat.add_assoc]] at hS9
      clear hv9
      refine m_sl rfl rfl ?_
      refine o_nil ?_
      refine k_blk ?_
      have hp : pputW b1 x W = b1 ++ bigB 2 x.a := by unfold pputW; rw [if_neg h15, if_pos hw]
      refine k_goal ⟨(a9, c9), ⟨by rw [hp]; rfl, trivial⟩, by rw [hp]; exact hO9⟩
    have h23 := h
    refine k_seq ?_
    refine k_region ?_
    refine b_eql rfl rfl ?_
    refine m_bool rfl rfl ?_
    refine o_nil ?_
    refine k_cond rfl (fun h => ?_) (fun h => ?_)
    ·
      have hw : W = 10 := by omega
      obtain ⟨H0, hH0⟩ : ∃ H0, H0 = w7.heap.size := ⟨_, rfl⟩
      have hdr : w7.drew.heap.size = w7.heap.size := rfl
      have hD2 : Keep [] w7 w7.drew := (Keep.refl [] w7).drew
      have hla : ∀ z, a3 = some z → z.block < H0 := fun z hz => hH0 ▸ hO5.sl.lt z hz
      have hn3 : b3 ∉ blkOf a3 := hO5.sl.notin hB5 (by decide)
      have hge : ∀ g, H0 ≤ g → g ∉ blkOf a3 := fun g hg hm => by obtain ⟨z, hz, hze⟩ := blkOf_some.1 hm; have := hla z hz; omega
      refine k_anyE 9 (Keep (blkOf a3)) (fun iA => match iA with
          | 0 => fun v w => v = .slice a3 b1.length c3
          | 1 => fun v w => v = .pointer (some ⟨b3, 3, none⟩)
          | 2 => fun v w => v = .int .i64 x.a
          | 3 => fun v w => ∃ a2 c2, v = .slice a2 2 c2 ∧ Sl w 5 1 a2 2 c2 ((bigB 2 x.a).map u8v) ∧ ∀ z, a2 = some z → H0 ≤ z.block
          | 4 => fun v w => True
          | 5 => fun v w => v = .pointer (some ⟨b3, 4, none⟩)
          | 6 => fun v w => v = .int .i64 x.b
          | 7 => fun v w => v = .int .u8 ((BitVec.ofInt 8 x.b).toNat : Int)
          | 8 => fun v w => ∃ g, v = .slice (some ⟨g, 0, none⟩) 2 2 ∧ Blk w g #[u8v (BitVec.ofInt 8 x.b), u8v 0#8] 5 ∧ H0 ≤ g
          | _ => fun v w => True) (fun D e w' => (D 4 = false → Outs wS w' a3 c3 b1) ∧ (D 4 = true → ∃ a2 c2, e 37 = .slice a2 (b1.length + 2) c2 ∧ Outs wS w' a2 c2 (b1 ++ bigB 2 x.a)) ∧ H0 ≤ w'.heap.size) rfl rfl rfl rfl (Keep.refl _) (fun _ _ _ h1 h2 => h1.trans h2 (fun _ h _ => h)) ?_ (⟨fun _ => hO5.new hD2, (fun h => by cases h), by rw [hH0]; exact Nat.le_refl _⟩) ?_ ?_
      · intro iA v w w' h hL
        match iA, h with
        | 0, h =>
          exact h
        | 1, h =>
          exact h
        | 2, h =>
          exact h
        | 3, h =>
          obtain ⟨a2, c2, h1, h2, h3⟩ := h
          exact ⟨a2, c2, h1, h2.keep hL (fun z hz => hge _ (h3 z hz)), h3⟩
        | 4, h =>
          exact h
        | 5, h =>
          exact h
        | 6, h =>
          exact h
        | 7, h =>
          exact h
        | 8, h =>
          obtain ⟨g, h1, h2, h3⟩ := h
          exact ⟨g, h1, h2.keep hL (hge g h3), h3⟩
        | _ + 9, h => trivial
      · intro iA o him hl D eA wA hDi hdp hSh hG hL hA hD
        match iA, him, hl with
        | 0, _, hl =>
          obtain rfl := Option.some.inj hl
          refine o_gen [(0, _)] ⟨hA 0 (free_of rfl), trivial⟩ (fun e2 => ?_)
          refine m_sl rfl rfl ?_
          refine o_nil ⟨(Keep.refl _) _, rfl, hG⟩
        | 1, _, hl =>
          obtain rfl := Option.some.inj hl
          refine o_gen [(3, _)] ⟨hA 3 (free_of rfl), trivial⟩ (fun e2 => ?_)
          refine o_fld (off := 3) rfl rfl ?_
          refine o_nil ⟨(Keep.refl _) _, rfl, hG⟩
        | 2, _, hl =>
          obtain rfl := Option.some.inj hl
          refine o_gen [(34, _)] ⟨hD 1 (by decide) 34 rfl, trivial⟩ (fun e2 => ?_)
          refine o_ld (v := iv x.a) rfl rfl (((hB5.keep hD2 (by simp)).keep hL hn3).at rfl) ?_
          refine o_nil ⟨(Keep.refl _) _, rfl, hG⟩
        | 3, _, hl =>
          obtain rfl := Option.some.inj hl
          refine o_gen [(35, _)] ⟨hD 2 (by decide) 35 rfl, trivial⟩ (fun e2 => ?_)
          refine o_call rfl rfl (rput_ok wA 2 x.a (by decide) (by decide) hia) (fun v w8 hv => ?_)
          obtain ⟨a8, c8, rfl, hS8, hf8, hK8⟩ := hv
          refine o_nil ⟨hK8.also, ⟨a8, c8, rfl, hS8, fun z hz => Nat.le_trans hG.2.2 (hf8 z hz)⟩, fun h => (hG.1 h).new hK8, fun h => ?_, Nat.le_trans hG.2.2 hK8.size⟩
          obtain ⟨a2, c2, h1, h2⟩ := hG.2.1 h
          exact ⟨a2, c2, h1, h2.new hK8⟩
        | 4, _, hl =>
          obtain rfl := Option.some.inj hl
          obtain ⟨a8, c8, hg1, hg2, hg3⟩ := hD 3 (by decide) 36 rfl
          refine o_gen [(33, _), (36, .slice a8 2 c8)] ⟨hD 0 (by decide) 33 rfl, hg1, trivial⟩ (fun e2 => ?_)
          have hOA := hG.1 hDi
          refine o_app Try.underlying22 inf5 rfl (by decide) rfl rfl hOA.sl hg2.rd (by simp [bigB_len]) (u8_one _) (by simp [maxLen]; omega) (by omega) (fun a9 c9 w9 hS9 hK9 hv9 => ?_)
          refine o_nil ⟨hK9, trivial, (fun h => by cases h), fun _ => ⟨a9, c9, rfl, hOA.app (by rw [bigB_len]) hS9 hK9 hv9⟩, Nat.le_trans hG.2.2 hK9.size⟩
        | 5, _, hl =>
          obtain rfl := Option.some.inj hl
          refine o_gen [(3, _)] ⟨hA 3 (free_of rfl), trivial⟩ (fun e2 => ?_)
          refine o_fld (off := 4) rfl rfl ?_
          refine o_nil ⟨(Keep.refl _) _, rfl, hG⟩
        | 6, _, hl =>
          obtain rfl := Option.some.inj hl
          refine o_gen [(38, _)] ⟨hD 5 (by decide) 38 rfl, trivial⟩ (fun e2 => ?_)
          refine o_ld (v := iv x.b) rfl rfl (((hB5.keep hD2 (by simp)).keep hL hn3).at rfl) ?_
          refine o_nil ⟨(Keep.refl _) _, rfl, hG⟩
        | 7, _, hl =>
          obtain rfl := Option.some.inj hl
          refine o_gen [(39, _)] ⟨hD 6 (by decide) 39 rfl, trivial⟩ (fun e2 => ?_)
          refine cv8 rfl Try.underlying5 rfl ?_
          refine o_nil ⟨(Keep.refl _) _, rfl, hG⟩
        | 8, _, hl =>
          obtain rfl := Option.some.inj hl
          refine o_gen [(40, _)] ⟨hD 7 (by decide) 40 rfl, trivial⟩ (fun e2 => ?_)
          refine o_bsl (E := 5) (cs := #[u8v (BitVec.ofInt 8 x.b), u8v 0#8]) rfl (fun _ => by kernel_rfl) (fun g w8 hB8 hK8 hb8 hZ8 => ?_)
          refine o_nil ⟨hK8.also, ⟨g, rfl, hB8, by have := hG.2.2; omega⟩, fun h => (hG.1 h).new hK8, fun h => ?_, Nat.le_trans hG.2.2 hK8.size⟩
          obtain ⟨a2, c2, h1, h2⟩ := hG.2.1 h
          exact ⟨a2, c2, h1, h2.new hK8⟩
        | _ + 9, him, _ => exact absurd him (by omega)
      intro D eA wA hAll hG hL hA hV
      obtain ⟨a9, c9, e9, hO9⟩ := hG.2.1 (hAll 4 (by decide) (by decide))
      obtain ⟨g, hg1, hg2, hg3⟩ := hV 8 (by decide) 41 rfl
      refine o_gen [(37, .slice a9 (b1 ++ bigB 2 x.a).length c9), (41, .slice (some ⟨g, 0, none⟩) 2 2)] ⟨by rw [List.length_append, bigB_len]; exact e9, hg1, trivial⟩ (fun e => ?_)
      change ow _ _ _ _ [_, _] _ _
      have hl9 : (b1 ++ bigB 2 x.a).length = b1.length + 2 := by rw [List.length_append, bigB_len]
      refine o_app Try.underlying22 inf5 rfl (by decide) rfl rfl hO9.sl hg2.rd rfl (by simp [u8v, Value.oneCell']) (by rw [hl9]; simp only [maxLen]; omega) (by omega) (fun a10 c10 w10 hS10 hK10 hv10 => ?_)
      have hO10 := hO9.app (news := [BitVec.ofInt 8 x.b, 0#8]) rfl hS10 hK10 hv10
      rw [show (b1 ++ bigB 2 x.a).length + 2 = (b1 ++ bigB 2 x.a ++ [BitVec.ofInt 8 x.b, 0#8]).length by simp [bigB_len, Nat.add_assoc]]
      refine m_sl rfl rfl ?_
      refine o_nil ?_
      refine k_blk ?_
      have hp : pputW b1 x W = b1 ++ bigB 2 x.a ++ [BitVec.ofInt 8 x.b, 0#8] := by unfold pputW; rw [if_neg h15, if_neg h23, if_pos hw]
      refine k_goal ⟨(a10, c10), ⟨by rw [hp]; rfl, trivial⟩, by rw [hp]; exact hO10⟩
    have h31 : ¬ W = 10 := by omega
    refine k_seq ?_
    refine k_region ?_
    refine b_eql rfl rfl ?_
    refine m_bool rfl rfl ?_
    refine o_nil ?_
    refine k_cond rfl (fun h => ?_) (fun h => ?_)
    ·
      have hw : W = 6 := by omega
      refine k_region ?_
      refine m_sl rfl rfl ?_
      refine o_fld (off := 3) rfl rfl ?_
      refine o_ld (v := iv x.a) rfl rfl (hB5.at rfl) ?_
      refine cv8 rfl Try.underlying5 rfl ?_
      refine o_fld (off := 4) rfl rfl ?_
      refine o_ld (v := iv x.b) rfl rfl (hB5.at rfl) ?_
      refine cv8 rfl Try.underlying5 rfl ?_
      refine o_bsl (E := 5) (cs := #[u8v (BitVec.ofInt 8 x.a), u8v (BitVec.ofInt 8 x.b)]) rfl (fun _ => by kernel_rfl) (fun g w8 hB8 hK8 hb8 hZ8 => ?_)
      have hO8 := hO5.new hK8
      have hBx8 := hB5.keep hK8 (by simp)
      refine o_app Try.underlying22 inf5 rfl (by decide) rfl rfl hO8.sl hB8.rd (rfl) (by simp [u8v, Value.oneCell']) (by simp [maxLen, bigB_len]; omega) (by omega) (fun a9 c9 w9 hS9 hK9 hv9 => ?_)
      have hO9 := hO8.app (news := [BitVec.ofInt 8 x.a, BitVec.ofInt 8 x.b]) (by rfl) hS9 hK9 hv9
      have hB9 := hBx8.keep hK9 (hO8.sl.notin hBx8 (by decide))
      rw [show (b1).length + 2 = (b1 ++ [BitVec.ofInt 8 x.a, BitVec.ofInt 8 x.b]).length by simp [bigB_len, Nat.add_assoc]]
      rw [show (b1).length + 2 = (b1 ++ [BitVec.ofInt 8 x.a, BitVec.ofInt 8 x.b]).length by simp [bigB_len, Nat.add_assoc]] at hS9
      clear hv9
      refine m_sl rfl rfl ?_
      refine o_nil ?_
      refine k_blk ?_
      have hp : pputW b1 x W = b1 ++ [BitVec.ofInt 8 x.a, BitVec.ofInt 8 x.b] := by unfold pputW; rw [if_neg h15, if_neg h23, if_neg h31, if_pos hw]
      refine k_goal ⟨(a9, c9), ⟨by rw [hp]; rfl, trivial⟩, by rw [hp]; exact hO9⟩
    have h43 : ¬ W = 6 := by omega
    refine k_seq ?_
    refine k_region ?_
    refine b_eql rfl rfl ?_
    refine m_bool rfl rfl ?_
    refine o_nil ?_
    refine k_cond rfl (fun h => ?_) (fun h => ?_)
    ·
      have hw : W = 7 := by omega
      refine k_seq ?_
      refine k_region ?_
      refine o_fld (off := 6) rfl rfl ?_
      refine o_ld (v := .slice aj x.jumps.length cj) rfl rfl (hB5.at rfl) ?_
      refine o_lens Try.underlying36 rfl ?_
      refine b_gtr rfl rfl ?_
      refine o_nil ?_
      refine k_cond rfl (fun h => ?_) (fun h => ?_)
      ·
        have hjn : 0 < x.jumps.length := by omega
        have hj0 := iv_at x.jumps 0 hjn
        obtain ⟨bj, oj, hje, _⟩ := hRj _ _ hj0
        subst hje
        have hD2 : Keep [] w7 w7.drew := (Keep.refl [] w7).drew
        have hjg : x.jumps[0] = x.jumps.getD 0 0 := by rw [List.getD_eq_getElem?_getD, List.getElem?_eq_getElem hjn]; rfl
        refine k_any 9 (fun w w' => Keep [] w w') (fun iA => match iA with
            | 0 => fun v w => v = .slice a3 b1.length c3
            | 1 => fun v w => v = .pointer (some ⟨b3, 6, none⟩)
            | 2 => fun v w => v = .slice (some ⟨bj, oj, none⟩) x.jumps.length cj
            | 3 => fun v w => v = .pointer (some ⟨bj, oj + 0, none⟩)
            | 4 => fun v w => v = .int .i64 (x.jumps[0])
            | 5 => fun v w => v = .pointer (some ⟨b3, 0, none⟩)
            | 6 => fun v w => v = .int .i64 x.p
            | 7 => fun v w => v = .int .i64 (IntKind.i64.wrap (x.jumps[0] - x.p))
            | 8 => fun v w => ∃ a2 c2, v = .slice a2 2 c2 ∧ Sl w 5 1 a2 2 c2 ((bigB 2 (x.jumps[0] - x.p)).map u8v)
            | _ => fun v w => True) rfl rfl rfl rfl rfl (Keep.refl []) (fun _ _ _ h1 h2 => h1.tr h2) ?_ ?_ ?_
        · intro iA v w w' h hL
          match iA, h with
          | 0, h =>
            exact h
          | 1, h =>
            exact h
          | 2, h =>
            exact h
          | 3, h =>
            exact h
          | 4, h =>
            exact h
          | 5, h =>
            exact h
          | 6, h =>
            exact h
          | 7, h =>
            exact h
          | 8, h =>
            obtain ⟨a2, c2, h1, h2⟩ := h
            exact ⟨a2, c2, h1, h2.new hL⟩
          | _ + 9, h => trivial
        · intro iA o him hl eA wA hL hA hD
          match iA, him, hl with
          | 0, _, hl =>
            obtain rfl := Option.some.inj hl
            refine o_gen [(0, _)] ⟨hA 0 (free_of rfl), trivial⟩ (fun e2 => ?_)
            refine m_sl rfl rfl ?_
            refine o_nil ⟨Keep.refl _ _, rfl⟩
          | 1, _, hl =>
            obtain rfl := Option.some.inj hl
            refine o_gen [(3, _)] ⟨hA 3 (free_of rfl), trivial⟩ (fun e2 => ?_)
            refine o_fld (off := 6) rfl rfl ?_
            refine o_nil ⟨Keep.refl _ _, rfl⟩
          | 2, _, hl =>
            obtain rfl := Option.some.inj hl
            refine o_gen [(61, _)] ⟨hD 1 (by decide) 61 rfl, trivial⟩ (fun e2 => ?_)
            refine o_ld rfl rfl ((hB5.keep (hD2.tr hL) (by simp)).at rfl) ?_
            refine o_nil ⟨Keep.refl _ _, rfl⟩
          | 3, _, hl =>
            obtain rfl := Option.some.inj hl
            refine o_gen [(62, _)] ⟨hD 2 (by decide) 62 rfl, trivial⟩ (fun e2 => ?_)
            refine o_ixs1 (m := 0) Try.underlying36 rfl rfl rfl (hjn) ?_
            refine o_nil ⟨Keep.refl _ _, rfl⟩
          | 4, _, hl =>
            obtain rfl := Option.some.inj hl
            refine o_gen [(63, _)] ⟨hD 3 (by decide) 63 rfl, trivial⟩ (fun e2 => ?_)
            refine o_ld (v := iv (x.jumps[0])) rfl rfl (hRj.cellK ((hO5.kp.tr hD2).tr hL) hj0) ?_
            refine o_nil ⟨Keep.refl _ _, rfl⟩
          | 5, _, hl =>
            obtain rfl := Option.some.inj hl
            refine o_gen [(3, _)] ⟨hA 3 (free_of rfl), trivial⟩ (fun e2 => ?_)
            refine o_fld0 rfl rfl ?_
            refine o_nil ⟨Keep.refl _ _, rfl⟩
          | 6, _, hl =>
            obtain rfl := Option.some.inj hl
            refine o_gen [(65, _)] ⟨hD 5 (by decide) 65 rfl, trivial⟩ (fun e2 => ?_)
            refine o_ld (v := iv x.p) rfl rfl ((hB5.keep (hD2.tr hL) (by simp)).at rfl) ?_
            refine o_nil ⟨Keep.refl _ _, rfl⟩
          | 7, _, hl =>
            obtain rfl := Option.some.inj hl
            refine o_gen [(64, _), (66, _)] ⟨hD 4 (by decide) 64 rfl, hD 6 (by decide) 66 rfl, trivial⟩ (fun e2 => ?_)
            refine b_sub rfl rfl ?_
            refine o_nil ⟨Keep.refl _ _, rfl⟩
          | 8, _, hl =>
            obtain rfl := Option.some.inj hl
            refine o_gen [(67, _)] ⟨hD 7 (by decide) 67 rfl, trivial⟩ (fun e2 => ?_)
            refine o_call rfl rfl (rput_ok wA 2 _ (by decide) (by decide) (wrap64 _)) (fun v w8 hv => ?_)
            obtain ⟨a8, c8, rfl, hS8, hf8, hK8⟩ := hv
            rw [bigB_wrap] at hS8
            refine o_nil ⟨hK8, a8, c8, rfl, hS8⟩
          | _ + 9, him, _ => exact absurd him (by omega)
        intro eA wA hL hA hV
        obtain ⟨a8, c8, e8, hS8⟩ := hV 8 (by decide) 68 rfl
        refine o_gen [(60, .slice a3 b1.length c3), (68, .slice a8 2 c8)] ⟨hV 0 (by decide) 60 rfl, e8, trivial⟩ (fun e => ?_)
        have hOA := (hO5.new hD2).new hL
        have hBA := (hB5.keep hD2 (by simp)).keep hL (by simp)
        change ow _ _ _ _ [_, _] _ _
        refine o_app Try.underlying22 inf5 rfl (by decide) rfl rfl hOA.sl hS8.rd (by simp [bigB_len]) (u8_one _) (by simp [maxLen, bigB_len]; omega) (by omega) (fun a9 c9 w9 hS9 hK9 hv9 => ?_)
        have hO9 := hOA.app (news := bigB 2 (x.jumps[0] - x.p)) (by rw [bigB_len]) hS9 hK9 hv9
        have hB9 := hBA.keep hK9 (hOA.sl.notin hBA (by decide))
        rw [show (b1).length + 2 = (b1 ++ bigB 2 (x.jumps[0] - x.p)).length by simp [bigB_len, Nat.add_assoc]]
        rw [show (b1).length + 2 = (b1 ++ bigB 2 (x.jumps[0] - x.p)).length by simp [bigB_len, Nat.add_assoc]] at hS9
        clear hv9
        refine m_sl rfl rfl ?_
        refine o_nil ?_
        refine k_blk ?_
        have hp : pputW b1 x W = b1 ++ bigB 2 (x.jumps[0] - x.p) := by
         unfold pputW
         rw [if_neg h15, if_neg h23, if_neg h31, if_neg h43, if_pos hw, if_neg (fun e => by rw [e] at hjn; simp at hjn), hjg]
        refine k_goal ⟨(a9, c9), ⟨by rw [hp]; rfl, trivial⟩, by rw [hp]; exact hO9⟩
      refine k_skip ?_
      refine k_blk ?_
      have hp : pputW b1 x W = b1 := by
       unfold pputW
       rw [if_neg h15, if_neg h23, if_neg h31, if_neg h43, if_pos hw, if_pos (List.eq_nil_of_length_eq_zero (by omega))]
      refine k_goal ⟨(a3, c3), ⟨by rw [hp]; rfl, trivial⟩, by rw [hp]; exact hO5⟩
    have h54 : ¬ W = 7 := by omega
    refine k_seq ?_
    refine k_seq ?_
    refine k_region ?_
    refine b_eql rfl rfl ?_
    refine m_bool rfl rfl ?_
    refine o_nil ?_
    refine k_cut (σ := Unit) (fun s => [(0, .slice a3 b1.length c3), (3, .pointer (some ⟨b3, 0, none⟩)), (70, .bool (decide (W = 8 ∨ W = 9)))]) (fun s w' => w' = w7) ?_ (fun s e w8 hJ => ?_)
    ·
      refine k_cond rfl (fun h => ?_) (fun h => ?_)
      ·
        refine k_skip ?_
        refine k_goal ⟨(), ⟨rfl, rfl, congrArg Value.bool (decide_eq_decide.2 (by omega)), trivial⟩, rfl⟩
      have h70 := h
      refine k_region ?_
      refine b_eql rfl rfl ?_
      refine m_bool rfl rfl ?_
      refine o_nil ?_
      refine k_goal ⟨(), ⟨rfl, rfl, congrArg Value.bool (decide_eq_decide.2 (by omega)), trivial⟩, rfl⟩
    subst hJ
    refine k_cond rfl (fun h => ?_) (fun h => ?_)
    ·
      have hw := h
      have hpp : pputW b1 x W = if x.jumps.length ≠ x.keys.length + 1 ∨ (x.keys.length = 0 ∧ W = 8) then pad4 b1 else swHead b1 x W ++ ents x W x.keys.length := by
       unfold pputW
       rw [if_neg h15, if_neg h23, if_neg h31, if_neg h43, if_neg h54, if_pos hw]
      have hug := up4_ge b1.length
      have hul := up4_lt b1.length
      have hu4 : up4 b1.length % 4 = 0 := by unfold up4; omega
      refine k_seq ?_
      refine k_block ?_
      refine k_loop (σ := Nat × Option Addr × Nat) (fun s => [(0, .slice s.2.1 (b1 ++ List.replicate s.1 0#8).length s.2.2), (3, .pointer (some ⟨b3, 0, none⟩))]) (fun s w' => s.1 ≤ up4 b1.length - b1.length ∧ Outs wS w' s.2.1 s.2.2 (b1 ++ List.replicate s.1 0#8) ∧ Blk w' b3 #[iv x.p, iv x.len, iv x.op, iv x.a, iv x.b, .slice ak x.keys.length ck, .slice aj x.jumps.length cj] 38) (fun s => up4 b1.length - b1.length - s.1) (0, a3, c3) ⟨by simp; rfl, rfl, trivial⟩ ⟨Nat.zero_le _, by simpa using hO5, hB5⟩ (fun s e w9 hJ => ?_)
      obtain ⟨i, a9, c9⟩ := s
      obtain ⟨hi9, hO9, hB9⟩ := hJ
      change kw _ _ _ _ (ovr [(0, .slice a9 (b1 ++ List.replicate i 0#8).length c9), (3, .pointer (some ⟨b3, 0, none⟩))] e) w9
      simp only at hi9 hO9 hB9
      have hl9 : (b1 ++ List.replicate i 0#8).length = b1.length + i := by simp
      refine k_seq ?_
      refine k_seq ?_
      refine k_region ?_
      refine m_sl rfl rfl ?_
      refine o_lens Try.underlying22 rfl ?_
      refine b_rem rfl rfl (by decide) ?_
      rw [show (((b1 ++ List.replicate i 0#8).length : Nat) : Int).tmod 4 = (((b1 ++ List.replicate i 0#8).length % 4 : Nat) : Int) from rfl]
      refine b_neq rfl rfl ?_
      refine o_nil ?_
      refine k_cond rfl (fun h => ?_) (fun h => ?_)
      rotate_left
      ·
        have hie : i = up4 b1.length - b1.length := by
         refine Decidable.byContradiction fun hh => h ?_
         rw [hl9]
         unfold up4 at *
         omega
        rw [pad4_eq hie] at hO9 hl9
        rw [pad4_eq hie]
        obtain ⟨b4, hb4⟩ : ∃ b4, pad4 b1 = b4 := ⟨_, rfl⟩
        rw [hb4] at hO9 hl9
        rw [hb4]
        refine k_exit rfl ?_
        refine k_seq ?_
        refine k_seq ?_
        refine k_cut (σ := Unit) (fun s => [(0, .slice a9 b4.length c9), (3, .pointer (some ⟨b3, 0, none⟩)), (99, .bool (decide (x.jumps.length ≠ x.keys.length + 1 ∨ (x.keys.length = 0 ∧ W = 8))))]) (fun s w' => Keep [] w9 w') ?_ (fun s e w10 hK10 => ?_)
        ·
          refine k_region ?_
          refine o_fld (off := 6) rfl rfl ?_
          refine o_ld (v := .slice aj x.jumps.length cj) rfl rfl (hB9.at rfl) ?_
          refine o_lens Try.underlying36 rfl ?_
          refine o_fld (off := 5) rfl rfl ?_
          refine o_ld (v := .slice ak x.keys.length ck) rfl rfl (hB9.at rfl) ?_
          refine o_lens Try.underlying36 rfl ?_
          refine n_add rfl rfl (by omega) ?_
          refine b_neq rfl rfl ?_
          refine m_bool rfl rfl ?_
          refine o_split (t := 88) rfl (fun h => ?_) (fun h => ?_)
          ·
            refine g_no rfl rfl rfl ?_
            refine g_no rfl rfl rfl ?_
            refine g_no rfl rfl rfl ?_
            refine g_no rfl rfl rfl ?_
            refine g_no rfl rfl rfl ?_
            refine g_un rfl rfl ?_
            refine g_un rfl rfl ?_
            refine g_un rfl rfl ?_
            refine g_un rfl rfl ?_
            refine g_no rfl rfl rfl ?_
            refine pick_t rfl rfl ?_
            refine o_nil ?_
            refine k_goal ⟨(), ⟨rfl, rfl, congrArg Value.bool (decide_eq_true (by omega)).symm, trivial⟩, Keep.refl _ _⟩
          ·
            have h88 := h
            refine g_yes rfl rfl ?_
            refine o_fld (off := 5) rfl rfl ?_
            refine g_yes rfl rfl ?_
            refine o_ld (v := .slice ak x.keys.length ck) rfl rfl (hB9.at rfl) ?_
            refine g_yes rfl rfl ?_
            refine o_lens Try.underlying36 rfl ?_
            refine g_yes rfl rfl ?_
            refine b_eql rfl rfl ?_
            refine g_yes rfl rfl ?_
            refine m_bool rfl rfl ?_
            refine o_split (t := 93) rfl (fun h => ?_) (fun h => ?_)
            ·
              have h93 := h
              refine g_yes rfl rfl ?_
              refine o_fld (off := 2) rfl rfl ?_
              refine g_yes rfl rfl ?_
              refine o_ld (v := iv x.op) rfl rfl (hB9.at rfl) ?_
              refine g_yes rfl rfl ?_
              refine o_call rfl (show _ = [Value.int .i64 (o : Int)] by rw [← ho]; rfl) (rway_ok w9 o ho256) (fun v w10 hv => ?_)
              obtain ⟨rfl, hK10⟩ := hv
              rw [hW]
              refine g_yes rfl rfl ?_
              refine b_eql rfl rfl ?_
              refine g_yes rfl rfl ?_
              refine pick_t rfl rfl ?_
              refine pick_f rfl rfl ?_
              refine o_nil ?_
              refine k_goal ⟨(), ⟨rfl, rfl, congrArg Value.bool (decide_eq_decide.2 (by omega)), trivial⟩, hK10⟩
            ·
              refine g_no rfl rfl rfl ?_
              refine g_no rfl rfl rfl ?_
              refine g_no rfl rfl rfl ?_
              refine g_no rfl rfl rfl ?_
              refine g_yes rfl rfl ?_
              refine pick_f rfl rfl ?_
              refine pick_f rfl rfl ?_
              refine o_nil ?_
              refine k_goal ⟨(), ⟨rfl, rfl, congrArg Value.bool (decide_eq_false (by omega)).symm, trivial⟩, Keep.refl _ _⟩
        have hO10 := hO9.new hK10
        have hB10 := hB9.keep hK10 (by simp)
        refine k_cond rfl (fun h => ?_) (fun h => ?_)
        ·
          refine k_seq ?_
          refine k_region ?_
          refine m_sl rfl rfl ?_
          refine m_sl rfl rfl ?_
          refine o_nil ?_
          refine k_ret (ret_tmps (ts := [4]) (v := .slice _ _ _) rfl rfl ?_)
          refine ⟨a9, c9, ?_, ?_⟩
          · rw [hpp, if_pos h, hb4]
          · rw [hpp, if_pos h, hb4]; exact hO10
        have hfit := h
        have hpp2 : pputW b1 x W = swHead b1 x W ++ ents x W x.keys.length := by rw [hpp, if_neg hfit]
        have hjn : 0 < x.jumps.length := by omega
        have hj0 := iv_at x.jumps 0 hjn
        obtain ⟨bj, oj, hje, _⟩ := hRj _ _ hj0
        subst hje
        have hD2 : Keep [] w10 w10.drew := (Keep.refl [] w10).drew
        have hjg : x.jumps[0] = x.jumps.getD 0 0 := by rw [List.getD_eq_getElem?_getD, List.getElem?_eq_getElem hjn]; rfl
        refine k_skip ?_
        refine k_seq ?_
        refine k_any 9 (fun w w' => Keep [] w w') (fun iA => match iA with
            | 0 => fun v w => v = .slice a9 b4.length c9
            | 1 => fun v w => v = .pointer (some ⟨b3, 6, none⟩)
            | 2 => fun v w => v = .slice (some ⟨bj, oj, none⟩) x.jumps.length cj
            | 3 => fun v w => v = .pointer (some ⟨bj, oj + 0, none⟩)
            | 4 => fun v w => v = .int .i64 (x.jumps[0])
            | 5 => fun v w => v = .pointer (some ⟨b3, 0, none⟩)
            | 6 => fun v w => v = .int .i64 x.p
            | 7 => fun v w => v = .int .i64 (IntKind.i64.wrap (x.jumps[0] - x.p))
            | 8 => fun v w => ∃ a2 c2, v = .slice a2 4 c2 ∧ Sl w 5 1 a2 4 c2 ((bigB 4 (x.jumps[0] - x.p)).map u8v)
            | _ => fun v w => True) rfl rfl rfl rfl rfl (Keep.refl []) (fun _ _ _ h1 h2 => h1.tr h2) ?_ ?_ ?_
        · intro iA v w w' h hL
          match iA, h with
          | 0, h =>
            exact h
          | 1, h =>
            exact h
          | 2, h =>
            exact h
          | 3, h =>
            exact h
          | 4, h =>
            exact h
          | 5, h =>
            exact h
          | 6, h =>
            exact h
          | 7, h =>
            exact h
          | 8, h =>
            obtain ⟨a2, c2, h1, h2⟩ := h
            exact ⟨a2, c2, h1, h2.new hL⟩
          | _ + 9, h => trivial
        · intro iA o him hl eA wA hL hA hD
          match iA, him, hl with
          | 0, _, hl =>
            obtain rfl := Option.some.inj hl
            refine o_gen [(0, _)] ⟨hA 0 (free_of rfl), trivial⟩ (fun e2 => ?_)
            refine m_sl rfl rfl ?_
            refine o_nil ⟨Keep.refl _ _, rfl⟩
          | 1, _, hl =>
            obtain rfl := Option.some.inj hl
            refine o_gen [(3, _)] ⟨hA 3 (free_of rfl), trivial⟩ (fun e2 => ?_)
            refine o_fld (off := 6) rfl rfl ?_
            refine o_nil ⟨Keep.refl _ _, rfl⟩
          | 2, _, hl =>
            obtain rfl := Option.some.inj hl
            refine o_gen [(102, _)] ⟨hD 1 (by decide) 102 rfl, trivial⟩ (fun e2 => ?_)
            refine o_ld rfl rfl ((hB10.keep (hD2.tr hL) (by simp)).at rfl) ?_
            refine o_nil ⟨Keep.refl _ _, rfl⟩
          | 3, _, hl =>
            obtain rfl := Option.some.inj hl
            refine o_gen [(103, _)] ⟨hD 2 (by decide) 103 rfl, trivial⟩ (fun e2 => ?_)
            refine o_ixs1 (m := 0) Try.underlying36 rfl rfl rfl (hjn) ?_
            refine o_nil ⟨Keep.refl _ _, rfl⟩
          | 4, _, hl =>
            obtain rfl := Option.some.inj hl
            refine o_gen [(104, _)] ⟨hD 3 (by decide) 104 rfl, trivial⟩ (fun e2 => ?_)
            refine o_ld (v := iv (x.jumps[0])) rfl rfl (hRj.cellK ((hO10.kp.tr hD2).tr hL) hj0) ?_
            refine o_nil ⟨Keep.refl _ _, rfl⟩
          | 5, _, hl =>
            obtain rfl := Option.some.inj hl
            refine o_gen [(3, _)] ⟨hA 3 (free_of rfl), trivial⟩ (fun e2 => ?_)
            refine o_fld0 rfl rfl ?_
            refine o_nil ⟨Keep.refl _ _, rfl⟩
          | 6, _, hl =>
            obtain rfl := Option.some.inj hl
            refine o_gen [(106, _)] ⟨hD 5 (by decide) 106 rfl, trivial⟩ (fun e2 => ?_)
            refine o_ld (v := iv x.p) rfl rfl ((hB10.keep (hD2.tr hL) (by simp)).at rfl) ?_
            refine o_nil ⟨Keep.refl _ _, rfl⟩
          | 7, _, hl =>
            obtain rfl := Option.some.inj hl
            refine o_gen [(105, _), (107, _)] ⟨hD 4 (by decide) 105 rfl, hD 6 (by decide) 107 rfl, trivial⟩ (fun e2 => ?_)
            refine b_sub rfl rfl ?_
            refine o_nil ⟨Keep.refl _ _, rfl⟩
          | 8, _, hl =>
            obtain rfl := Option.some.inj hl
            refine o_gen [(108, _)] ⟨hD 7 (by decide) 108 rfl, trivial⟩ (fun e2 => ?_)
            refine o_call rfl rfl (rput_ok wA 4 _ (by decide) (by decide) (wrap64 _)) (fun v w8 hv => ?_)
            obtain ⟨a8, c8, rfl, hS8, hf8, hK8⟩ := hv
            rw [bigB_wrap] at hS8
            refine o_nil ⟨hK8, a8, c8, rfl, hS8⟩
          | _ + 9, him, _ => exact absurd him (by omega)
        intro eA wA hL hA hV
        obtain ⟨a8, c8, e8, hS8⟩ := hV 8 (by decide) 109 rfl
        refine o_gen [(3, .pointer (some ⟨b3, 0, none⟩)), (101, .slice a9 b4.length c9), (109, .slice a8 4 c8)] ⟨hA 3 (free_of rfl), hV 0 (by decide) 101 rfl, e8, trivial⟩ (fun e => ?_)
        have hOA := (hO10.new hD2).new hL
        have hBA := (hB10.keep hD2 (by simp)).keep hL (by simp)
        change ow _ _ _ _ [_, _] _ _
        refine o_app Try.underlying22 inf5 rfl (by decide) rfl rfl hOA.sl hS8.rd (by simp [bigB_len]) (u8_one _) (by simp [maxLen, bigB_len]; omega) (by omega) (fun a12 c12 w12 hS12 hK12 hv12 => ?_)
        have hO12 := hOA.app (news := bigB 4 (x.jumps[0] - x.p)) (by rw [bigB_len]) hS12 hK12 hv12
        have hB12 := hBA.keep hK12 (hOA.sl.notin hBA (by decide))
        rw [show (b4).length + 4 = (b4 ++ bigB 4 (x.jumps[0] - x.p)).length by simp [bigB_len, Nat.add_assoc]]
        rw [show (b4).length + 4 = (b4 ++ bigB 4 (x.jumps[0] - x.p)).length by simp [bigB_len, Nat.add_assoc]] at hS12
        clear hv12
        obtain ⟨b5, hb5⟩ : ∃ b5, b4 ++ bigB 4 (x.jumps[0] - x.p) = b5 := ⟨_, rfl⟩
        have hl5 : b5.length = b4.length + 4 := by rw [← hb5, List.length_append, bigB_len]
        rw [hb5] at hO12 hS12
        rw [hb5]
        refine m_sl rfl rfl ?_
        refine o_nil ?_
        refine k_seq ?_
        refine k_seq ?_
        refine k_region ?_
        refine o_fld (off := 2) rfl rfl ?_
        refine o_ld (v := iv x.op) rfl rfl (hB12.at rfl) ?_
        refine o_call rfl (show _ = [Value.int .i64 (o : Int)] by rw [← ho]; rfl) (rway_ok w12 o ho256) (fun v w13 hv => ?_)
        obtain ⟨rfl, hK13⟩ := hv
        have hO13 := hO12.new hK13
        have hB13 := hB12.keep hK13 (by simp)
        rw [hW]
        have hsw : swHead b1 x W = b5 ++ (if W = 8 then bigB 4 (x.keys.getD 0 0) ++ bigB 4 (x.keys.getD (x.keys.length - 1) 0) else bigB 4 x.keys.length) := by unfold swHead; rw [hb4, ← hjg, hb5]
        refine b_eql rfl rfl ?_
        refine o_nil ?_
        refine k_cut (σ := Option Addr × Nat) (fun s => [(0, .slice s.1 (swHead b1 x W).length s.2), (3, .pointer (some ⟨b3, 0, none⟩))]) (fun s w' => Outs wS w' s.1 s.2 (swHead b1 x W) ∧ Blk w' b3 #[iv x.p, iv x.len, iv x.op, iv x.a, iv x.b, .slice ak x.keys.length ck, .slice (some ⟨bj, oj, none⟩) x.jumps.length cj] 38) ?_ (fun s e w20 hJ => ?_)
        ·
          refine k_cond rfl (fun h => ?_) (fun h => ?_)
          ·
            have hw8 : W = 8 := by omega
            have hkn : 0 < x.keys.length := by omega
            have hk0 := iv_at x.keys 0 hkn
            have hk1 := iv_at x.keys (x.keys.length - 1) (by omega)
            obtain ⟨bk, ok_, hke, _⟩ := hRk _ _ hk0
            subst hke
            have hg0 : x.keys[0] = x.keys.getD 0 0 := by rw [List.getD_eq_getElem?_getD, List.getElem?_eq_getElem hkn]; rfl
            have hg1 : x.keys[x.keys.length - 1]'(by omega) = x.keys.getD (x.keys.length - 1) 0 := by rw [List.getD_eq_getElem?_getD, List.getElem?_eq_getElem (by omega)]; rfl
            refine k_seq ?_
            refine k_region ?_
            refine m_sl rfl rfl ?_
            refine o_fld (off := 5) rfl rfl ?_
            refine o_ld (v := .slice (some ⟨bk, ok_, none⟩) x.keys.length ck) rfl rfl (hB13.at rfl) ?_
            refine o_ixs1 (m := 0) Try.underlying36 rfl rfl rfl hkn ?_
            refine o_ld (v := iv (x.keys[0])) rfl rfl (hRk.cellK hO13.kp hk0) ?_
            refine o_call rfl rfl (rput_ok w13 4 (x.keys[0]) (by decide) (by decide) (hik _ (List.getElem_mem hkn))) (fun v w14 hv => ?_)
            obtain ⟨a14, c14, rfl, hS14, _, hK14⟩ := hv
            have hO14 := hO13.new hK14
            have hB14 := hB13.keep hK14 (by simp)
            refine o_app Try.underlying22 inf5 rfl (by decide) rfl rfl hO14.sl hS14.rd (by simp [bigB_len]) (u8_one _) (by simp [maxLen, bigB_len]; omega) (by omega) (fun a15 c15 w15 hS15 hK15 hv15 => ?_)
            have hO15 := hO14.app (news := bigB 4 (x.keys[0])) (by rw [bigB_len]) hS15 hK15 hv15
            have hB15 := hB14.keep hK15 (hO14.sl.notin hB14 (by decide))
            rw [show (b5).length + 4 = (b5 ++ bigB 4 (x.keys[0])).length by simp [bigB_len, Nat.add_assoc]]
            rw [show (b5).length + 4 = (b5 ++ bigB 4 (x.keys[0])).length by simp [bigB_len, Nat.add_assoc]] at hS15
            clear hv15
            refine m_sl rfl rfl ?_
            refine o_nil ?_
            refine k_region ?_
            refine m_sl rfl rfl ?_
            refine o_fld (off := 5) rfl rfl ?_
            refine o_ld (v := .slice (some ⟨bk, ok_, none⟩) x.keys.length ck) rfl rfl (hB15.at rfl) ?_
            refine o_fld (off := 5) rfl rfl ?_
            refine o_ld (v := .slice (some ⟨bk, ok_, none⟩) x.keys.length ck) rfl rfl (hB15.at rfl) ?_
            refine o_lens Try.underlying36 rfl ?_
            refine n_sub rfl rfl (by omega) ?_
            refine o_ixs1 (m := x.keys.length - 1) Try.underlying36 rfl rfl (congrArg (Value.int .i64) (by omega)) (by omega) ?_
            refine o_ld (v := iv (x.keys[x.keys.length - 1]'(by omega))) rfl rfl (hRk.cellK hO15.kp hk1) ?_
            refine o_call rfl rfl (rput_ok w15 4 (x.keys[x.keys.length - 1]'(by omega)) (by decide) (by decide) (hik _ (List.getElem_mem _))) (fun v w16 hv => ?_)
            obtain ⟨a16, c16, rfl, hS16, _, hK16⟩ := hv
            have hO16 := hO15.new hK16
            have hB16 := hB15.keep hK16 (by simp)
            have hl15 : (b5 ++ bigB 4 (x.keys[0])).length = b5.length + 4 := by rw [List.length_append, bigB_len]
            refine o_app Try.underlying22 inf5 rfl (by decide) rfl rfl hO16.sl hS16.rd (by simp [bigB_len]) (u8_one _) (by simp [maxLen, bigB_len]; omega) (by omega) (fun a17 c17 w17 hS17 hK17 hv17 => ?_)
            have hO17 := hO16.app (news := bigB 4 (x.keys[x.keys.length - 1]'(by omega))) (by rw [bigB_len]) hS17 hK17 hv17
            have hB17 := hB16.keep hK17 (hO16.sl.notin hB16 (by decide))
            rw [show (b5 ++ bigB 4 (x.keys[0])).length + 4 = (b5 ++ bigB 4 (x.keys[0]) ++ bigB 4 (x.keys[x.keys.length - 1]'(by omega))).length by simp [bigB_len, Nat.add_assoc]]
            rw [show (b5 ++ bigB 4 (x.keys[0])).length + 4 = (b5 ++ bigB 4 (x.keys[0]) ++ bigB 4 (x.keys[x.keys.length - 1]'(by omega))).length by simp [bigB_len, Nat.add_assoc]] at hS17
            clear hv17
            refine m_sl rfl rfl ?_
            refine o_nil ?_
            have hp : swHead b1 x W = b5 ++ bigB 4 (x.keys[0]) ++ bigB 4 (x.keys[x.keys.length - 1]'(by omega)) := by rw [hsw, if_pos hw8, ← hg0, ← hg1, List.append_assoc]
            refine k_goal ⟨(a17, c17), ⟨by rw [hp]; rfl, rfl, trivial⟩, by rw [hp]; exact hO17, hB17⟩
          have hw9 : W = 9 := by omega
          refine k_region ?_
          refine m_sl rfl rfl ?_
          refine o_fld (off := 5) rfl rfl ?_
          refine o_ld (v := .slice ak x.keys.length ck) rfl rfl (hB13.at rfl) ?_
          refine o_lens Try.underlying36 rfl ?_
          refine o_call rfl rfl (rput_ok w13 4 (x.keys.length : Int) (by decide) (by decide) (by omega)) (fun v w14 hv => ?_)
          obtain ⟨a14, c14, rfl, hS14, _, hK14⟩ := hv
          have hO14 := hO13.new hK14
          have hB14 := hB13.keep hK14 (by simp)
          refine o_app Try.underlying22 inf5 rfl (by decide) rfl rfl hO14.sl hS14.rd (by simp [bigB_len]) (u8_one _) (by simp [maxLen, bigB_len]; omega) (by omega) (fun a15 c15 w15 hS15 hK15 hv15 => ?_)
          have hO15 := hO14.app (news := bigB 4 (x.keys.length : Int)) (by rw [bigB_len]) hS15 hK15 hv15
          have hB15 := hB14.keep hK15 (hO14.sl.notin hB14 (by decide))
          rw [show (b5).length + 4 = (b5 ++ bigB 4 (x.keys.length : Int)).length by simp [bigB_len, Nat.add_assoc]]
          rw [show (b5).length + 4 = (b5 ++ bigB 4 (x.keys.length : Int)).length by simp [bigB_len, Nat.add_assoc]] at hS15
          clear hv15
          refine m_sl rfl rfl ?_
          refine o_nil ?_
          have hp : swHead b1 x W = b5 ++ bigB 4 (x.keys.length : Int) := by rw [hsw, if_neg (by omega)]
          refine k_goal ⟨(a15, c15), ⟨by rw [hp]; rfl, rfl, trivial⟩, by rw [hp]; exact hO15, hB15⟩
        obtain ⟨a20, c20⟩ := s
        obtain ⟨hO20, hB20⟩ := hJ
        simp only at hO20
        change kw _ _ _ _ (ovr [(0, .slice a20 (swHead b1 x W).length c20), (3, .pointer (some ⟨b3, 0, none⟩))] e) w20
        have hls : (swHead b1 x W).length ≤ b5.length + 8 := by
         rw [hsw, List.length_append]
         split
         · rw [List.length_append, bigB_len, bigB_len]; omega
         · rw [bigB_len]; omega
        obtain ⟨b6, hb6⟩ : ∃ b6, swHead b1 x W = b6 := ⟨_, rfl⟩
        rw [hb6] at hO20 hls
        rw [hb6]
        refine k_seq ?_
        refine k_region ?_
        refine m_int rfl rfl ?_
        refine o_nil ?_
        refine k_block ?_
        refine k_loop (σ := Nat × Option Addr × Nat) (fun s => [(0, .slice s.2.1 (b6 ++ ents x W s.1).length s.2.2), (3, .pointer (some ⟨b3, 0, none⟩)), (5, .int .i64 (s.1 : Int))]) (fun s w' => s.1 ≤ x.keys.length ∧ Outs wS w' s.2.1 s.2.2 (b6 ++ ents x W s.1) ∧ Blk w' b3 #[iv x.p, iv x.len, iv x.op, iv x.a, iv x.b, .slice ak x.keys.length ck, .slice (some ⟨bj, oj, none⟩) x.jumps.length cj] 38) (fun s => x.keys.length - s.1) (0, a20, c20) ⟨by simp [ents]; rfl, rfl, rfl, trivial⟩ ⟨Nat.zero_le _, by simpa [ents] using hO20, hB20⟩ (fun s e w21 hJ => ?_)
        obtain ⟨i2, a21, c21⟩ := s
        obtain ⟨hi2, hO21, hB21⟩ := hJ
        change kw _ _ _ _ (ovr [(0, .slice a21 (b6 ++ ents x W i2).length c21), (3, .pointer (some ⟨b3, 0, none⟩)), (5, .int .i64 (i2 : Int))] e) w21
        simp only at hi2 hO21 hB21
        have hle := ents_len x W i2
        have hl21 : (b6 ++ ents x W i2).length = b6.length + (ents x W i2).length := List.length_append
        refine k_seq ?_
        refine k_seq ?_
        refine k_region ?_
        refine m_int rfl rfl ?_
        refine o_fld (off := 5) rfl rfl ?_
        refine o_ld (v := .slice ak x.keys.length ck) rfl rfl (hB21.at rfl) ?_
        refine o_lens Try.underlying36 rfl ?_
        refine b_lss rfl rfl ?_
        refine o_nil ?_
        refine k_cond rfl (fun h => ?_) (fun h => ?_)
        rotate_left
        ·
          refine k_exit rfl ?_
          refine k_blk ?_
          have hie2 : i2 = x.keys.length := by omega
          subst hie2
          have hp : pputW b1 x W = b6 ++ ents x W x.keys.length := by rw [hpp2, hb6]
          refine k_goal ⟨(a21, c21), ⟨by rw [hp]; rfl, trivial⟩, by rw [hp]; exact hO21⟩
        have hin : i2 < x.keys.length := by omega
        refine k_skip ?_
        refine k_seq ?_
        refine k_block ?_
        refine k_seq ?_
        refine k_seq ?_
        refine k_region ?_
        refine o_fld (off := 2) rfl rfl ?_
        refine o_ld (v := iv x.op) rfl rfl (hB21.at rfl) ?_
        refine o_call rfl (show _ = [Value.int .i64 (o : Int)] by rw [← ho]; rfl) (rway_ok w21 o ho256) (fun v w22 hv => ?_)
        obtain ⟨rfl, hK22⟩ := hv
        have hO22 := hO21.new hK22
        have hB22 := hB21.keep hK22 (by simp)
        rw [hW]
        refine b_eql rfl rfl ?_
        refine o_nil ?_
        refine k_cut (σ := Option Addr × Nat) (fun s => [(0, .slice s.1 (b6 ++ ents x W i2 ++ (if W = 9 then bigB 4 (x.keys.getD i2 0) else [])).length s.2), (3, .pointer (some ⟨b3, 0, none⟩)), (5, .int .i64 (i2 : Int))]) (fun s w' => Outs wS w' s.1 s.2 (b6 ++ ents x W i2 ++ (if W = 9 then bigB 4 (x.keys.getD i2 0) else [])) ∧ Blk w' b3 #[iv x.p, iv x.len, iv x.op, iv x.a, iv x.b, .slice ak x.keys.length ck, .slice (some ⟨bj, oj, none⟩) x.jumps.length cj] 38) ?_ (fun s e w30 hJ => ?_)
        ·
          refine k_cond rfl (fun h => ?_) (fun h => ?_)
          ·
            have hw9 : W = 9 := by omega
            have hkx := iv_at x.keys i2 hin
            obtain ⟨bk, ok_, hke, _⟩ := hRk _ _ hkx
            subst hke
            have hg0 : x.keys[i2] = x.keys.getD i2 0 := by rw [List.getD_eq_getElem?_getD, List.getElem?_eq_getElem hin]; rfl
            refine k_region ?_
            refine m_sl rfl rfl ?_
            refine o_fld (off := 5) rfl rfl ?_
            refine o_ld (v := .slice (some ⟨bk, ok_, none⟩) x.keys.length ck) rfl rfl (hB22.at rfl) ?_
            refine m_int rfl rfl ?_
            refine o_ixs1 Try.underlying36 rfl rfl rfl hin ?_
            refine o_ld (v := iv (x.keys[i2])) rfl rfl (hRk.cellK hO22.kp hkx) ?_
            refine o_call rfl rfl (rput_ok w22 4 (x.keys[i2]) (by decide) (by decide) (hik _ (List.getElem_mem hin))) (fun v w23 hv => ?_)
            obtain ⟨a23, c23, rfl, hS23, _, hK23⟩ := hv
            have hO23 := hO22.new hK23
            have hB23 := hB22.keep hK23 (by simp)
            refine o_app Try.underlying22 inf5 rfl (by decide) rfl rfl hO23.sl hS23.rd (by simp [bigB_len]) (u8_one _) (by simp [maxLen, bigB_len]; omega) (by omega) (fun a24 c24 w24 hS24 hK24 hv24 => ?_)
            have hO24 := hO23.app (news := bigB 4 (x.keys[i2])) (by rw [bigB_len]) hS24 hK24 hv24
            have hB24 := hB23.keep hK24 (hO23.sl.notin hB23 (by decide))
            rw [show (b6 ++ ents x W i2).length + 4 = (b6 ++ ents x W i2 ++ bigB 4 (x.keys[i2])).length by simp [bigB_len, Nat.add_assoc]]
            rw [show (b6 ++ ents x W i2).length + 4 = (b6 ++ ents x W i2 ++ bigB 4 (x.keys[i2])).length by simp [bigB_len, Nat.add_assoc]] at hS24
            clear hv24
            refine m_sl rfl rfl ?_
            refine o_nil ?_
            have hp : b6 ++ ents x W i2 ++ (if W = 9 then bigB 4 (x.keys.getD i2 0) else []) = b6 ++ ents x W i2 ++ bigB 4 (x.keys[i2]) := by rw [if_pos hw9, ← hg0]
            refine k_goal ⟨(a24, c24), ⟨by rw [hp]; rfl, rfl, rfl, trivial⟩, by rw [hp]; exact hO24, hB24⟩
          refine k_skip ?_
          have hp : b6 ++ ents x W i2 ++ (if W = 9 then bigB 4 (x.keys.getD i2 0) else []) = b6 ++ ents x W i2 := by rw [if_neg (by omega), List.append_nil]
          refine k_goal ⟨(a21, c21), ⟨by rw [hp]; rfl, rfl, rfl, trivial⟩, by rw [hp]; exact hO22, hB22⟩
        obtain ⟨a30, c30⟩ := s
        obtain ⟨hO30, hB30⟩ := hJ
        simp only at hO30
        change kw _ _ _ _ (ovr [(0, .slice a30 (b6 ++ ents x W i2 ++ (if W = 9 then bigB 4 (x.keys.getD i2 0) else [])).length c30), (3, .pointer (some ⟨b3, 0, none⟩)), (5, .int .i64 (i2 : Int))] e) w30
        have hl30 : (b6 ++ ents x W i2 ++ (if W = 9 then bigB 4 (x.keys.getD i2 0) else [])).length ≤ b6.length + (ents x W i2).length + 4 := by
         rw [List.length_append, hl21]
         split
         · rw [bigB_len]; omega
         · simp only [List.length_nil]; omega
        have hen : b6 ++ ents x W i2 ++ (if W = 9 then bigB 4 (x.keys.getD i2 0) else []) ++ bigB 4 (x.jumps.getD (i2 + 1) 0 - x.p) = b6 ++ ents x W (i2 + 1) := by
         conv => rhs; unfold ents
         simp only [List.append_assoc]
        obtain ⟨b7, hb7⟩ : ∃ b7, b6 ++ ents x W i2 ++ (if W = 9 then bigB 4 (x.keys.getD i2 0) else []) = b7 := ⟨_, rfl⟩
        rw [hb7] at hO30 hl30 hen
        rw [hb7]
        have hjn1 : i2 + 1 < x.jumps.length := by omega
        have hj1 := iv_at x.jumps (i2 + 1) hjn1
        have hD2 : Keep [] w30 w30.drew := (Keep.refl [] w30).drew
        have hjg1 : x.jumps[i2 + 1] = x.jumps.getD (i2 + 1) 0 := by rw [List.getD_eq_getElem?_getD, List.getElem?_eq_getElem hjn1]; rfl
        refine k_any 11 (fun w w' => Keep [] w w') (fun iA => match iA with
            | 0 => fun v w => v = .slice a30 b7.length c30
            | 1 => fun v w => v = .pointer (some ⟨b3, 6, none⟩)
            | 2 => fun v w => v = .slice (some ⟨bj, oj, none⟩) x.jumps.length cj
            | 3 => fun v w => v = .int .i64 (i2 : Int)
            | 4 => fun v w => v = .int .i64 ((i2 + 1 : Nat) : Int)
            | 5 => fun v w => v = .pointer (some ⟨bj, oj + (i2 + 1), none⟩)
            | 6 => fun v w => v = .int .i64 (x.jumps[i2 + 1])
            | 7 => fun v w => v = .pointer (some ⟨b3, 0, none⟩)
            | 8 => fun v w => v = .int .i64 x.p
            | 9 => fun v w => v = .int .i64 (IntKind.i64.wrap (x.jumps[i2 + 1] - x.p))
            | 10 => fun v w => ∃ a2 c2, v = .slice a2 4 c2 ∧ Sl w 5 1 a2 4 c2 ((bigB 4 (x.jumps[i2 + 1] - x.p)).map u8v)
            | _ => fun v w => True) rfl rfl rfl rfl rfl (Keep.refl []) (fun _ _ _ h1 h2 => h1.tr h2) ?_ ?_ ?_
        · intro iA v w w' h hL
          match iA, h with
          | 0, h =>
            exact h
          | 1, h =>
            exact h
          | 2, h =>
            exact h
          | 3, h =>
            exact h
          | 4, h =>
            exact h
          | 5, h =>
            exact h
          | 6, h =>
            exact h
          | 7, h =>
            exact h
          | 8, h =>
            exact h
          | 9, h =>
            exact h
          | 10, h =>
            obtain ⟨a2, c2, h1, h2⟩ := h
            exact ⟨a2, c2, h1, h2.new hL⟩
          | _ + 11, h => trivial
        · intro iA o him hl eA wA hL hA hD
          match iA, him, hl with
          | 0, _, hl =>
            obtain rfl := Option.some.inj hl
            refine o_gen [(0, _)] ⟨hA 0 (free_of rfl), trivial⟩ (fun e2 => ?_)
            refine m_sl rfl rfl ?_
            refine o_nil ⟨Keep.refl _ _, rfl⟩
          | 1, _, hl =>
            obtain rfl := Option.some.inj hl
            refine o_gen [(3, _)] ⟨hA 3 (free_of rfl), trivial⟩ (fun e2 => ?_)
            refine o_fld (off := 6) rfl rfl ?_
            refine o_nil ⟨Keep.refl _ _, rfl⟩
          | 2, _, hl =>
            obtain rfl := Option.some.inj hl
            refine o_gen [(159, _)] ⟨hD 1 (by decide) 159 rfl, trivial⟩ (fun e2 => ?_)
            refine o_ld rfl rfl ((hB30.keep (hD2.tr hL) (by simp)).at rfl) ?_
            refine o_nil ⟨Keep.refl _ _, rfl⟩
          | 3, _, hl =>
            obtain rfl := Option.some.inj hl
            refine o_gen [(5, _)] ⟨hA 5 (free_of rfl), trivial⟩ (fun e2 => ?_)
            refine m_int rfl rfl ?_
            refine o_nil ⟨Keep.refl _ _, rfl⟩
          | 4, _, hl =>
            obtain rfl := Option.some.inj hl
            refine o_gen [(161, _)] ⟨hD 3 (by decide) 161 rfl, trivial⟩ (fun e2 => ?_)
            refine n_add rfl rfl (by omega) ?_
            refine o_nil ⟨Keep.refl _ _, rfl⟩
          | 5, _, hl =>
            obtain rfl := Option.some.inj hl
            refine o_gen [(160, _), (162, _)] ⟨hD 2 (by decide) 160 rfl, hD 4 (by decide) 162 rfl, trivial⟩ (fun e2 => ?_)
            refine o_ixs1 (m := i2 + 1) Try.underlying36 rfl rfl rfl (hjn1) ?_
            refine o_nil ⟨Keep.refl _ _, rfl⟩
          | 6, _, hl =>
            obtain rfl := Option.some.inj hl
            refine o_gen [(163, _)] ⟨hD 5 (by decide) 163 rfl, trivial⟩ (fun e2 => ?_)
            refine o_ld (v := iv (x.jumps[i2 + 1])) rfl rfl (hRj.cellK ((hO30.kp.tr hD2).tr hL) hj1) ?_
            refine o_nil ⟨Keep.refl _ _, rfl⟩
          | 7, _, hl =>
            obtain rfl := Option.some.inj hl
            refine o_gen [(3, _)] ⟨hA 3 (free_of rfl), trivial⟩ (fun e2 => ?_)
            refine o_fld0 rfl rfl ?_
            refine o_nil ⟨Keep.refl _ _, rfl⟩
          | 8, _, hl =>
            obtain rfl := Option.some.inj hl
            refine o_gen [(165, _)] ⟨hD 7 (by decide) 165 rfl, trivial⟩ (fun e2 => ?_)
            refine o_ld (v := iv x.p) rfl rfl ((hB30.keep (hD2.tr hL) (by simp)).at rfl) ?_
            refine o_nil ⟨Keep.refl _ _, rfl⟩
          | 9, _, hl =>
            obtain rfl := Option.some.inj hl
            refine o_gen [(164, _), (166, _)] ⟨hD 6 (by decide) 164 rfl, hD 8 (by decide) 166 rfl, trivial⟩ (fun e2 => ?_)
            refine b_sub rfl rfl ?_
            refine o_nil ⟨Keep.refl _ _, rfl⟩
          | 10, _, hl =>
            obtain rfl := Option.some.inj hl
            refine o_gen [(167, _)] ⟨hD 9 (by decide) 167 rfl, trivial⟩ (fun e2 => ?_)
            refine o_call rfl rfl (rput_ok wA 4 _ (by decide) (by decide) (wrap64 _)) (fun v w8 hv => ?_)
            obtain ⟨a8, c8, rfl, hS8, hf8, hK8⟩ := hv
            rw [bigB_wrap] at hS8
            refine o_nil ⟨hK8, a8, c8, rfl, hS8⟩
          | _ + 11, him, _ => exact absurd him (by omega)
        intro eA wA hL hA hV
        obtain ⟨a8, c8, e8, hS8⟩ := hV 10 (by decide) 168 rfl
        refine o_gen [(3, .pointer (some ⟨b3, 0, none⟩)), (5, .int .i64 (i2 : Int)), (158, .slice a30 b7.length c30), (168, .slice a8 4 c8)] ⟨hA 3 (free_of rfl), hA 5 (free_of rfl), hV 0 (by decide) 158 rfl, e8, trivial⟩ (fun e => ?_)
        have hOA := (hO30.new hD2).new hL
        have hBA := (hB30.keep hD2 (by simp)).keep hL (by simp)
        change ow _ _ _ _ [_, _] _ _
        refine o_app Try.underlying22 inf5 rfl (by decide) rfl rfl hOA.sl hS8.rd (by simp [bigB_len]) (u8_one _) (by simp [maxLen, bigB_len]; omega) (by omega) (fun a31 c31 w31 hS31 hK31 hv31 => ?_)
        have hO31 := hOA.app (news := bigB 4 (x.jumps[i2 + 1] - x.p)) (by rw [bigB_len]) hS31 hK31 hv31
        have hB31 := hBA.keep hK31 (hOA.sl.notin hBA (by decide))
        rw [show (b7).length + 4 = (b7 ++ bigB 4 (x.jumps[i2 + 1] - x.p)).length by simp [bigB_len, Nat.add_assoc]]
        rw [show (b7).length + 4 = (b7 ++ bigB 4 (x.jumps[i2 + 1] - x.p)).length by simp [bigB_len, Nat.add_assoc]] at hS31
        clear hv31
        rw [hjg1, hen] at hO31
        rw [hjg1, hen]
        refine m_sl rfl rfl ?_
        refine o_nil ?_
        refine k_blk ?_
        refine k_region ?_
        refine m_int rfl rfl ?_
        refine n_add rfl rfl (by omega) ?_
        refine m_int rfl rfl ?_
        refine o_nil ?_
        refine k_goal ⟨(i2 + 1, a31, c31), ⟨rfl, rfl, rfl, trivial⟩, ⟨by simp only; omega, hO31, hB31⟩, by simp only; omega⟩
      have hlt : i < up4 b1.length - b1.length := by
       refine Decidable.byContradiction fun hh => h ?_
       rw [hl9, show b1.length + i = up4 b1.length by omega, hu4]; rfl
      refine k_skip ?_
      refine k_block ?_
      refine k_region ?_
      refine m_sl rfl rfl ?_
      refine o_bsl (E := 5) (cs := #[u8v 0#8]) rfl (fun _ => by kernel_rfl) (fun g w10 hB10 hK10 hb10 hZ10 => ?_)
      have hO10 := hO9.new hK10
      have hBx10 := hB9.keep hK10 (by simp)
      refine o_app Try.underlying22 inf5 rfl (by decide) rfl rfl hO10.sl hB10.rd (rfl) (by simp [u8v, Value.oneCell']) (by simp [maxLen, bigB_len]; omega) (by omega) (fun a11 c11 w11 hS11 hK11 hv11 => ?_)
      have hO11 := hO10.app (news := [0#8]) (by rfl) hS11 hK11 hv11
      have hB11 := hBx10.keep hK11 (hO10.sl.notin hBx10 (by decide))
      rw [show (b1 ++ List.replicate i 0#8).length + 1 = (b1 ++ List.replicate i 0#8 ++ [0#8]).length by simp [bigB_len, Nat.add_assoc]]
      rw [show (b1 ++ List.replicate i 0#8).length + 1 = (b1 ++ List.replicate i 0#8 ++ [0#8]).length by simp [bigB_len, Nat.add_assoc]] at hS11
      clear hv11
      rw [show b1 ++ List.replicate i 0#8 ++ [0#8] = b1 ++ List.replicate (i + 1) 0#8 by rw [List.append_assoc, ← List.replicate_succ']] at hO11
      rw [show b1 ++ List.replicate i 0#8 ++ [0#8] = b1 ++ List.replicate (i + 1) 0#8 by rw [List.append_assoc, ← List.replicate_succ']]
      refine m_sl rfl rfl ?_
      refine o_nil ?_
      refine k_blk ?_
      refine k_goal ⟨(i + 1, a11, c11), ⟨rfl, rfl, trivial⟩, ⟨by simp only; omega, hO11, hB11⟩, by simp only; omega⟩
    refine k_skip ?_
    refine k_blk ?_
    have hp : pputW b1 x W = b1 := by
     unfold pputW
     rw [if_neg h15, if_neg h23, if_neg h31, if_neg h43, if_neg h54, if_neg h]
    refine k_goal ⟨(a3, c3), ⟨by rw [hp]; rfl, trivial⟩, by rw [hp]; exact hO5⟩
  obtain ⟨a40, c40⟩ := s
  simp only at hJ
  refine k_seq ?_
  refine k_region ?_
  refine m_sl rfl rfl ?_
  refine m_sl rfl rfl ?_
  refine o_nil ?_
  refine k_ret (ret_tmps (ts := [4]) (v := .slice _ _ _) rfl rfl ?_)
  exact ⟨a40, c40, rfl, hJ⟩
end Go.Proofs.Ytmdkinedbmjieaa
