/- Ops: the walk of reader.keys. No condition beyond what its contract names. -/
import Derived.Test.YtmdkinedbmjieaaOc
namespace Go.Proofs.Ytmdkinedbmjieaa
open Go.RowKit E
set_option linter.unusedVariables false
set_option linter.unusedSimpArgs false
set_option maxRecDepth 100000
attribute [local irreducible] ow qw kw kq cw opW Ret
def swOk (cs : Bs) (q : Nat) : Nat → Prop
  | 8 => q + 12 ≤ cs.length ∧ far cs (q + 4) ≤ far cs (q + 8) ∧ q + 12 + 4 * tabN cs q ≤ cs.length
  | _ => q + 8 ≤ cs.length ∧ 0 ≤ far cs (q + 4) ∧ q + 8 + 8 * lukN cs q ≤ cs.length ∧ rise cs (q + 8) (lukN cs q)
def swIs (cs : Bs) (p q : Nat) : Nat → Nat × List Int × List Int
  | 8 => (q + 12 + 4 * tabN cs q, tabKeys cs q (tabN cs q), tabJumps cs p q (tabN cs q))
  | _ => (q + 8 + 8 * lukN cs q, lukKeys cs q (lukN cs q), lukJumps cs p q (lukN cs q))
theorem tabKeys_succ (cs : Bs) (q i : Nat) : tabKeys cs q (i + 1) = tabKeys cs q i ++ [far cs (q + 4) + (i : Int)] := by simp [tabKeys, List.range_succ]
theorem tabJumps_succ (cs : Bs) (p q i : Nat) : tabJumps cs p q (i + 1) = tabJumps cs p q i ++ [(p : Int) + far cs (q + 12 + 4 * i)] := by simp [tabJumps, List.range_succ]
theorem lukKeys_succ (cs : Bs) (q i : Nat) : lukKeys cs q (i + 1) = lukKeys cs q i ++ [far cs (q + 8 + 8 * i)] := by simp [lukKeys, List.range_succ]
theorem lukJumps_succ (cs : Bs) (p q i : Nat) : lukJumps cs p q (i + 1) = lukJumps cs p q i ++ [(p : Int) + far cs (q + 8 + 8 * i + 4)] := by simp [lukJumps, List.range_succ]
theorem tabKeys_len (cs : Bs) (q i : Nat) : (tabKeys cs q i).length = i := by simp [tabKeys]
theorem tabJumps_len (cs : Bs) (p q i : Nat) : (tabJumps cs p q i).length = i + 1 := by simp [tabJumps]
theorem lukKeys_len (cs : Bs) (q i : Nat) : (lukKeys cs q i).length = i := by simp [lukKeys]
theorem lukJumps_len (cs : Bs) (p q i : Nat) : (lukJumps cs p q i).length = i + 1 := by simp [lukJumps]
theorem rise_succ (cs : Bs) (q i : Nat) : rise cs q (i + 1) ↔ rise cs q i ∧ (0 < i → far cs (q + 8 * (i - 1)) < far cs (q + 8 * i)) := by
  constructor
  · exact fun h => ⟨fun j h0 hj => h j h0 (by omega), fun h0 => h i h0 (by omega)⟩
  · intro h j h0 hj
    by_cases hji : j = i
    · subst hji; exact h.2 h0
    · exact h.1 j h0 (by omega)
/-- a switch that is being read -/
def Sw (k base r mm xb : Nat) (cs : Bs) (p op : Nat) (w : World) (ks js : List Int) (f : Bool) : Prop :=
  ∃ ak ck aj cj, Blk w xb #[iv p, iv 1, iv op, iv 0, iv 0, .slice ak ks.length ck, .slice aj js.length cj] 38 ∧ Sl w 3 1 ak ks.length ck (ks.map iv) ∧ Sl w 3 1 aj js.length cj (js.map iv) ∧ Off (blkOf aj) ak ∧ (∀ z, ak = some z → base ≤ z.block) ∧ (∀ z, aj = some z → base ≤ z.block) ∧ Rdr k w r mm cs f
theorem cx_of {k base r mm xb : Nat} {cs : Bs} {w : World} {ak aj : Option Addr} {nk ck nj cj : Nat} {ks js : List Value} {X : Array Value} {f : Bool} (hX : Blk w xb X 38) (hK : Sl w 3 1 ak nk ck ks) (hJ : Sl w 3 1 aj nj cj js) (hO : Off (blkOf aj) ak) (hbk : ∀ z, ak = some z → base ≤ z.block) (hbj : ∀ z, aj = some z → base ≤ z.block) (hR : Rdr k w r mm cs f) (hkx : k ≤ xb) (hkb : k ≤ base) : Cx k r xb ak aj := by
  obtain ⟨a, c, hB, _, _, _, hkr, _⟩ := hR
  refine ⟨hkr, hkx, fun e => ?_, hK.notin hB (by decide), hJ.notin hB (by decide), hK.notin hX (by decide), hJ.notin hX (by decide), hO, ?_, ?_, ?_⟩
  · subst e; exact absurd (hX.ty hB) (by decide)
  · intro z hz hm
    cases ak with
    | none => simp [blkOf] at hm
    | some y =>
      simp [blkOf] at hm
      exact hO y rfl (by rw [hz]; simp [blkOf, hm])
  · intro b hb
    cases ak with
    | none => simp [blkOf] at hb
    | some y => simp [blkOf] at hb; subst hb; exact Nat.le_trans hkb (hbk y rfl)
  · intro b hb
    cases aj with
    | none => simp [blkOf] at hb
    | some y => simp [blkOf] at hb; subst hb; exact Nat.le_trans hkb (hbj y rfl)
theorem Sw.flag {k base r mm xb : Nat} {cs : Bs} {p op : Nat} {w w' : World} {ks js : List Int} {f f' : Bool} (h : Sw k base r mm xb cs p op w ks js f) (hk : Keep [r] w w') (hR' : Rdr k w' r mm cs f') : Sw k base r mm xb cs p op w' ks js f' := by
  obtain ⟨ak, ck, aj, cj, hX, hK, hJ, hO, hbk, hbj, hR⟩ := h
  obtain ⟨a, c, hB, _⟩ := hR
  refine ⟨ak, ck, aj, cj, hX.keep hk ?_, hK.keep hk (hK.off hB (by decide)), hJ.keep hk (hJ.off hB (by decide)), hO, hbk, hbj, hR'⟩
  intro hm
  simp at hm
  subst hm
  exact absurd (hX.ty hB) (by decide)
theorem Sw.rdr {k base r mm xb : Nat} {cs : Bs} {p op : Nat} {w : World} {ks js : List Int} {f : Bool} (h : Sw k base r mm xb cs p op w ks js f) : Rdr k w r mm cs f := by
  obtain ⟨ak, ck, aj, cj, hX, hK, hJ, hO, hbk, hbj, hR⟩ := h
  exact hR
theorem Sw.new {k base r mm xb : Nat} {cs : Bs} {p op : Nat} {w w' : World} {ks js : List Int} {f : Bool} (h : Sw k base r mm xb cs p op w ks js f) (hk : Keep [] w w') : Sw k base r mm xb cs p op w' ks js f := by
  obtain ⟨ak, ck, aj, cj, hX, hK, hJ, hO, hbk, hbj, hR⟩ := h
  exact ⟨ak, ck, aj, cj, hX.keep hk (by simp), hK.new hk, hJ.new hk, hO, hbk, hbj, hR.keep hk (by simp)⟩
theorem flag_is {k r mm : Nat} {cs : Bs} {fl : Bool} {bad : Prop} [Decidable bad] {w : World} (h : fFlag k r mm cs fl bad w) (h1 : fl = true → Rdr k w r mm cs true) (h2 : bad → Rdr k w r mm cs true) : Rdr k w r mm cs (fl || decide bad) := by
  obtain ⟨f, hf, hb⟩ := h
  cases f with
  | true =>
    rcases hb rfl with h | h
    · rw [h]; exact hf
    · rw [decide_eq_true h, Bool.or_true]; exact hf
  | false =>
    cases fl with
    | true => exact h1 rfl
    | false =>
      by_cases hbad : bad
      · rw [decide_eq_true hbad]; exact h2 hbad
      · rw [decide_eq_false hbad]; exact hf
/-- Sw from its parts, behind a turn of both slices -/
theorem Sw.of {k base H r mm xb : Nat} {cs : Bs} {p op : Nat} {w : World} {ks js ks' js' : List Int} {kx jx : Int} {f : Bool} {ak aj a2 b2 : Option Addr} {ck cj c2 d2 : Nat} (hks : ks' = ks ++ [kx]) (hjs : js' = js ++ [jx])
    (hX : Blk w xb #[iv p, iv 1, iv op, iv 0, iv 0, .slice a2 (ks.length + 1) c2, .slice b2 (js.length + 1) d2] 38) (hK : Sl w 3 1 a2 (ks.length + 1) c2 (ks.map iv ++ [iv kx])) (hJ : Sl w 3 1 b2 (js.length + 1) d2 (js.map iv ++ [iv jx]))
    (hO : Off (blkOf aj) ak) (hbk : ∀ z, ak = some z → base ≤ z.block) (hbj : ∀ z, aj = some z → base ≤ z.block) (hlk : ∀ z, ak = some z → z.block < H) (hlj : ∀ z, aj = some z → z.block < H) (hbH : base ≤ H)
    (hv : (a2 = ak ∧ c2 = ck) ∨ ∃ g, a2 = some ⟨g, 0, none⟩ ∧ H ≤ g ∧ g ≤ H + 1) (hu : (b2 = aj ∧ d2 = cj) ∨ ∃ g, b2 = some ⟨g, 0, none⟩ ∧ H + 2 ≤ g) (hR : Rdr k w r mm cs f) : Sw k base r mm xb cs p op w ks' js' f := by
  subst hks hjs
  refine ⟨a2, c2, b2, d2, by simpa using hX, by simpa using hK, by simpa using hJ, ?_, ?_, ?_, hR⟩
  · rcases hv with ⟨rfl, rfl⟩ | ⟨g, rfl, hg⟩
    · rcases hu with ⟨rfl, rfl⟩ | ⟨g', rfl, hg'⟩
      · exact hO
      · intro z hz hm; simp [blkOf] at hm; have := hlk z hz; omega
    · rcases hu with ⟨rfl, rfl⟩ | ⟨g', rfl, hg'⟩
      · intro z hz hm
        cases hz
        cases b2 with
        | none => simp [blkOf] at hm
        | some y => simp [blkOf] at hm; have := hlj y rfl; omega
      · intro z hz hm; cases hz; simp [blkOf] at hm; omega
  · rcases hv with ⟨rfl, rfl⟩ | ⟨g, rfl, hg⟩
    · exact hbk
    · intro z hz; cases hz; simp only; omega
  · rcases hu with ⟨rfl, rfl⟩ | ⟨g, rfl, hg⟩
    · exact hbj
    · intro z hz; cases hz; simp only; omega
theorem tab_true {cs : Bs} {q i : Nat} {fl : Bool} (hi : i ≤ tabN cs q) (h : (fl || decide (¬ q + 4 ≤ cs.length) || !decide (q + 4 + 4 ≤ cs.length) || !decide (q + 8 + 4 ≤ cs.length) || decide (far cs (q + 8) - far cs (q + 4) + 1 < 1 ∨ (cs.length : Int) < far cs (q + 8) - far cs (q + 4) + 1) || decide (0 < i ∧ cs.length < q + 12 + 4 * i)) = true) : fl = true ∨ ¬ swOk cs q 8 := by
  by_cases hs : swOk cs q 8
  · left
    obtain ⟨h1, h2, h3⟩ := hs
    have h4 : ((tabN cs q : Nat) : Int) = far cs (q + 8) - far cs (q + 4) + 1 := by unfold tabN; omega
    rw [decide_eq_false (show ¬ ¬ q + 4 ≤ cs.length by omega), decide_eq_true (show q + 4 + 4 ≤ cs.length by omega), decide_eq_true (show q + 8 + 4 ≤ cs.length by omega), decide_eq_false (show ¬ (far cs (q + 8) - far cs (q + 4) + 1 < 1 ∨ (cs.length : Int) < far cs (q + 8) - far cs (q + 4) + 1) by omega), decide_eq_false (show ¬ (0 < i ∧ cs.length < q + 12 + 4 * i) by omega)] at h
    simpa using h
  · exact .inr hs
theorem tab_false {cs : Bs} {q i : Nat} {fl : Bool} (hi : i ≤ tabN cs q) (hn : ¬ (i : Int) < far cs (q + 8) - far cs (q + 4) + 1) (h : (fl || decide (¬ q + 4 ≤ cs.length) || !decide (q + 4 + 4 ≤ cs.length) || !decide (q + 8 + 4 ≤ cs.length) || decide (far cs (q + 8) - far cs (q + 4) + 1 < 1 ∨ (cs.length : Int) < far cs (q + 8) - far cs (q + 4) + 1) || decide (0 < i ∧ cs.length < q + 12 + 4 * i)) = false) : fl = false ∧ swOk cs q 8 ∧ i = tabN cs q := by
  simp only [Bool.or_eq_false_iff, Bool.not_eq_false', decide_eq_false_iff_not, decide_eq_true_eq] at h
  obtain ⟨⟨⟨⟨⟨h1, h2⟩, h3⟩, h4⟩, h5⟩, h6⟩ := h
  have h7 : ((tabN cs q : Nat) : Int) = far cs (q + 8) - far cs (q + 4) + 1 := by unfold tabN; omega
  have h8 : i = tabN cs q := by omega
  subst h8
  exact ⟨h1, ⟨by omega, by omega, by omega⟩, rfl⟩
theorem luk_true {cs : Bs} {q i : Nat} {fl : Bool} (hi : i ≤ lukN cs q) (h : (fl || decide (¬ q + 4 ≤ cs.length) || !decide (q + 4 + 4 ≤ cs.length) || decide (far cs (q + 4) < 0 ∨ (cs.length : Int) < far cs (q + 4)) || decide (0 < i ∧ cs.length < q + 8 + 8 * i) || !decide (rise cs (q + 8) i)) = true) : fl = true ∨ ¬ swOk cs q 9 := by
  by_cases hs : swOk cs q 9
  · left
    obtain ⟨h1, h2, h3, h5⟩ := hs
    have h4 : ((lukN cs q : Nat) : Int) = far cs (q + 4) := by unfold lukN; omega
    rw [decide_eq_false (show ¬ ¬ q + 4 ≤ cs.length by omega), decide_eq_true (show q + 4 + 4 ≤ cs.length by omega), decide_eq_false (show ¬ (far cs (q + 4) < 0 ∨ (cs.length : Int) < far cs (q + 4)) by omega), decide_eq_false (show ¬ (0 < i ∧ cs.length < q + 8 + 8 * i) by omega), decide_eq_true (show rise cs (q + 8) i from fun j h0 hj => h5 j h0 (by omega))] at h
    simpa using h
  · exact .inr hs
theorem luk_false {cs : Bs} {q i : Nat} {fl : Bool} (hi : i ≤ lukN cs q) (hn : ¬ (i : Int) < far cs (q + 4)) (h : (fl || decide (¬ q + 4 ≤ cs.length) || !decide (q + 4 + 4 ≤ cs.length) || decide (far cs (q + 4) < 0 ∨ (cs.length : Int) < far cs (q + 4)) || decide (0 < i ∧ cs.length < q + 8 + 8 * i) || !decide (rise cs (q + 8) i)) = false) : fl = false ∧ swOk cs q 9 ∧ i = lukN cs q := by
  simp only [Bool.or_eq_false_iff, Bool.not_eq_false', decide_eq_false_iff_not, decide_eq_true_eq] at h
  obtain ⟨⟨⟨⟨⟨h1, h2⟩, h3⟩, h4⟩, h5⟩, h6⟩ := h
  have h7 : ((lukN cs q : Nat) : Int) = far cs (q + 4) := by unfold lukN; omega
  have h8 : i = lukN cs q := by omega
  subst h8
  exact ⟨h1, ⟨by omega, by omega, by omega, h6⟩, rfl⟩
set_option maxHeartbeats 2000000 in
theorem keys_ok (k : Nat) (w : World) (r mm xb p q op : Nat) (cs : Bs) (fl : Bool) (f : BitVec 8) (hf : f = 8#8 ∨ f = 9#8) (hR : Rdr k w r mm cs fl) (hX : Blk w xb #[iv p, iv 1, iv op, iv 0, iv 0, .slice none 0 0, .slice none 0 0] 38) (hkx : k ≤ xb) (hkw : k ≤ w.heap.size) (hp : p ≤ 5000) (hq : q ≤ 5000) :
    Ret Try.prog 25 [.pointer (some ⟨r, 0, none⟩), .pointer (some ⟨xb, 0, none⟩), .int .u8 (f.toNat : Int), .int .i64 (q : Int)] w (fun v w' => ∃ (e : Nat) (ks js : List Int) (fl' : Bool), v = .int .i64 (e : Int) ∧ e ≤ 100000 ∧ Sw k w.heap.size r mm xb cs p op w' ks js fl' ∧ Keep [r, xb] w w' ∧ (fl' = true → fl = true ∨ ¬ swOk cs q f.toNat) ∧ (fl' = false → fl = false ∧ swOk cs q f.toNat ∧ (e, ks, js) = swIs cs p q f.toNat)) := by
  have hlen : cs.length ≤ 4096 := hR.choose_spec.choose_spec.2.2.2.2.2
  have hC0 : Cx k r xb none none := cx_of (base := w.heap.size) hX (Sl.nil w 3 1) (Sl.nil w 3 1) (by simp [Off]) (by simp) (by simp) hR hkx hkw
  have hfq := far_b cs q
  have hfq4 := far_b cs (q + 4)
  have hfq8 := far_b cs (q + 8)
  have hF5 : fFlag k r mm cs fl (¬ q + 4 ≤ cs.length) ∈ fcts k r mm cs fl (¬ q + 4 ≤ cs.length) none 0 0 [] (iv 0) none 0 0 [] (iv 0) := by simp [fcts]
  have hF6 : (fun w => Rdr k w r mm cs true) ∈ fcts k r mm cs fl (¬ q + 4 ≤ cs.length) none 0 0 [] (iv 0) none 0 0 [] (iv 0) := by simp [fcts]
  have hR0 : fFlag k r mm cs fl (¬ q + 4 ≤ cs.length) w.drew := ⟨fl, hR, .inl⟩
  have hX0 : Blk w.drew xb #[iv p, iv 1, iv op, iv 0, iv 0, .slice none 0 0, .slice none 0 0] 38 := hX
  have hrlt : r < w.heap.size := hR.choose_spec.choose_spec.1.lt
  obtain ⟨H, hH⟩ : ∃ H, H = w.heap.size := ⟨_, rfl⟩
  refine fn_enter (n := 190) Try.func25 rfl rfl (Nat.le_of_ble_eq_true rfl) (fun e => ?_)
  refine k_seq ?_
  refine k_region ?_
  refine m_int rfl rfl ?_
  refine o_nil ?_
  refine k_seq ?_
  refine k_anyG 15 (LeF [r] (fcts k r mm cs fl (¬ q + 4 ≤ cs.length) none 0 0 [] (iv 0) none 0 0 [] (iv 0))) (fun iA => match iA with
      | 0 => fun v w => v = .pointer (some ⟨xb, 0, none⟩)
      | 1 => fun v w => v = .pointer (some ⟨xb, 0, none⟩)
      | 2 => fun v w => v = .pointer (some ⟨xb, 0, none⟩)
      | 3 => fun v w => v = .pointer (some ⟨xb, 6, none⟩)
      | 4 => fun v w => v = .slice none 0 0
      | 5 => fun v w => v = .pointer (some ⟨xb, 0, none⟩)
      | 6 => fun v w => v = .pointer (some ⟨xb, 0, none⟩)
      | 7 => fun v w => v = .pointer (some ⟨xb, 0, none⟩)
      | 8 => fun v w => v = .int .i64 (p : Int)
      | 9 => fun v w => v = .pointer (some ⟨r, 0, none⟩)
      | 10 => fun v w => v = .int .i64 (q : Int)
      | 11 => fun v w => v = .int .i64 (far cs q) ∧ (¬ q + 4 ≤ cs.length → Rdr k w r mm cs true)
      | 12 => fun v w => v = .int .i64 ((p : Int) + far cs q)
      | 13 => fun v w => ∃ g, v = .slice (some ⟨g, 0, none⟩) 1 1 ∧ Blk w g #[iv ((p : Int) + far cs q)] 3 ∧ H ≤ g
      | 14 => fun v w => ∃ a2 c2, v = .slice a2 1 c2 ∧ Sl w 3 1 a2 1 c2 [iv ((p : Int) + far cs q)] ∧ ∀ z, a2 = some z → H ≤ z.block
      | _ => fun v w => True) [] (fun D w' => Blk w' xb #[iv p, iv 1, iv op, iv 0, iv 0, .slice none 0 0, .slice none 0 0] 38) rfl rfl rfl rfl rfl (LeF.refl _ _) (fun _ _ _ h1 h2 => h1.tr h2) ?_ (fun _ h => by simp at h) (hX0) ?_ ?_
  · intro iA v w w' h hL
    match iA, h with
    | 0, h =>
      exact h
    | 1, h =>
      exact h
    | 2, h =>
      exact h
    | 3, h =>
      exact h
    | 4, h =>
      exact h
    | 5, h =>
      exact h
    | 6, h =>
      exact h
    | 7, h =>
      exact h
    | 8, h =>
      exact h
    | 9, h =>
      exact h
    | 10, h =>
      exact h
    | 11, h =>
      exact ⟨h.1, fun hb => hL.2 _ hF6 (h.2 hb)⟩
    | 12, h =>
      exact h
    | 13, h =>
      obtain ⟨g, h1, h2, h3⟩ := h
      exact ⟨g, h1, h2.keep hL.1 (by simp; omega), h3⟩
    | 14, h =>
      obtain ⟨a2, c2, h1, h2, h3⟩ := h
      exact ⟨a2, c2, h1, h2.keep hL.1 (fun z hz hm => by have := h3 z hz; simp at hm; omega), h3⟩
    | _ + 15, h => trivial
  · intro iA o him hl D eA wA hDi hdp hSh hG hL hA hD
    match iA, him, hl with
    | 0, _, hl =>
      obtain rfl := Option.some.inj hl
      refine o_gen [(1, _)] ⟨hA 1 (free_of rfl), trivial⟩ (fun e2 => ?_)
      refine m_ptr rfl rfl ?_
      refine o_nil ⟨LeF.refl _ _ _, rfl, fun h => by simp at h, hG⟩
    | 1, _, hl =>
      obtain rfl := Option.some.inj hl
      refine o_gen [(1, _)] ⟨hA 1 (free_of rfl), trivial⟩ (fun e2 => ?_)
      refine m_ptr rfl rfl ?_
      refine o_nil ⟨LeF.refl _ _ _, rfl, fun h => by simp at h, hG⟩
    | 2, _, hl =>
      obtain rfl := Option.some.inj hl
      refine o_gen [(15, _)] ⟨hD 1 (by decide) 15 rfl, trivial⟩ (fun e2 => ?_)
      refine o_nilc rfl ?_
      refine o_nil ⟨LeF.refl _ _ _, rfl, fun h => by simp at h, hG⟩
    | 3, _, hl =>
      obtain rfl := Option.some.inj hl
      refine o_gen [(16, _)] ⟨hD 2 (by decide) 16 rfl, trivial⟩ (fun e2 => ?_)
      refine o_fld (off := 6) rfl rfl ?_
      refine o_nil ⟨LeF.refl _ _ _, rfl, fun h => by simp at h, hG⟩
    | 4, _, hl =>
      obtain rfl := Option.some.inj hl
      refine o_gen [(17, _)] ⟨hD 3 (by decide) 17 rfl, trivial⟩ (fun e2 => ?_)
      refine o_ld rfl rfl (hG.at rfl) ?_
      refine o_nil ⟨LeF.refl _ _ _, rfl, fun h => by simp at h, hG⟩
    | 5, _, hl =>
      obtain rfl := Option.some.inj hl
      refine o_gen [(1, _)] ⟨hA 1 (free_of rfl), trivial⟩ (fun e2 => ?_)
      refine m_ptr rfl rfl ?_
      refine o_nil ⟨LeF.refl _ _ _, rfl, fun h => by simp at h, hG⟩
    | 6, _, hl =>
      obtain rfl := Option.some.inj hl
      refine o_gen [(19, _)] ⟨hD 5 (by decide) 19 rfl, trivial⟩ (fun e2 => ?_)
      refine o_nilc rfl ?_
      refine o_nil ⟨LeF.refl _ _ _, rfl, fun h => by simp at h, hG⟩
    | 7, _, hl =>
      obtain rfl := Option.some.inj hl
      refine o_gen [(20, _)] ⟨hD 6 (by decide) 20 rfl, trivial⟩ (fun e2 => ?_)
      refine o_fld0 rfl rfl ?_
      refine o_nil ⟨LeF.refl _ _ _, rfl, fun h => by simp at h, hG⟩
    | 8, _, hl =>
      obtain rfl := Option.some.inj hl
      refine o_gen [(21, _)] ⟨hD 7 (by decide) 21 rfl, trivial⟩ (fun e2 => ?_)
      refine o_ld rfl rfl (hG.at rfl) ?_
      refine o_nil ⟨LeF.refl _ _ _, rfl, fun h => by simp at h, hG⟩
    | 9, _, hl =>
      obtain rfl := Option.some.inj hl
      refine o_gen [(0, _)] ⟨hA 0 (free_of rfl), trivial⟩ (fun e2 => ?_)
      refine m_ptr rfl rfl ?_
      refine o_nil ⟨LeF.refl _ _ _, rfl, fun h => by simp at h, hG⟩
    | 10, _, hl =>
      obtain rfl := Option.some.inj hl
      refine o_gen [(3, _)] ⟨hA 3 (free_of rfl), trivial⟩ (fun e2 => ?_)
      refine m_int rfl rfl ?_
      refine o_nil ⟨LeF.refl _ _ _, rfl, fun h => by simp at h, hG⟩
    | 11, _, hl =>
      obtain rfl := Option.some.inj hl
      refine o_gen [(23, _), (24, _)] ⟨hD 9 (by decide) 23 rfl, hD 10 (by decide) 24 rfl, trivial⟩ (fun e2 => ?_)
      obtain ⟨f0, hf0, hf1⟩ := hL.2 _ hF5 hR0
      refine o_call rfl rfl (far_ok k _ r mm q cs f0 hf0 (by omega)) (fun v w6 hv => ?_)
      obtain ⟨rfl, hR6, hK6, hZ6⟩ := hv
      have hL6 := le_far (S := [r]) (nk := 0) (ck := 0) (ks := []) (kx := iv 0) (nj := 0) (cj := 0) (js := []) (jx := iv 0) (bad := ¬ q + 4 ≤ cs.length) hC0 (by simp) hK6 hf0 hf1 hR6 (fun hh => by omega)
      refine o_nil ⟨hL6, ⟨rfl, fun hh => ?_⟩, fun h => by simp at h, hG.keep hK6 (by simpa using fun e => hC0.rx e.symm)⟩
      rw [decide_eq_false hh, Bool.not_false, Bool.or_true] at hR6
      exact hR6
    | 12, _, hl =>
      obtain rfl := Option.some.inj hl
      refine o_gen [(22, _), (25, _)] ⟨hD 8 (by decide) 22 rfl, (hD 11 (by decide) 25 rfl).1, trivial⟩ (fun e2 => ?_)
      refine n_add rfl rfl (by omega) ?_
      refine o_nil ⟨LeF.refl _ _ _, rfl, fun h => by simp at h, hG⟩
    | 13, _, hl =>
      obtain rfl := Option.some.inj hl
      refine o_gen [(26, _)] ⟨hD 12 (by decide) 26 rfl, trivial⟩ (fun e2 => ?_)
      refine o_bsl (E := 3) (cs := #[iv ((p : Int) + far cs q)]) rfl (fun _ => by kernel_rfl) (fun g w6 hB6 hK6 hb6 hZ6 => ?_)
      have hsz := hL.1.size
      refine o_nil ⟨le_new hK6, ⟨g, rfl, hB6, by have : w.drew.heap.size = w.heap.size := rfl; omega⟩, fun h => by simp at h, hG.keep hK6 (by simp)⟩
    | 14, _, hl =>
      obtain rfl := Option.some.inj hl
      obtain ⟨g, hg, hgB, hgl⟩ := hD 13 (by decide) 27 rfl
      refine o_gen [(18, _), (27, _)] ⟨hD 4 (by decide) 18 rfl, hg, trivial⟩ (fun e2 => ?_)
      refine o_app2 Try.underlying36 inf3 rfl (by decide) rfl rfl (Sl.nil _ 3 1) hgB.rd rfl (by simp [Value.oneCell', iv]) (by simp [maxLen]) (by omega) (fun a2 c2 w6 hS6 hv6 => ?_)
      have hsz := hL.1.size
      have hdr : w.drew.heap.size = w.heap.size := rfl
      rcases hv6 with ⟨rfl, rfl, hK6, hZ6⟩ | ⟨g6, rfl, hK6, hb6, hZ6⟩
      · exact absurd hS6.2 (by simp)
      · exact o_nil ⟨le_new hK6, ⟨_, _, rfl, hS6, fun z hz => by cases hz; simp only; omega⟩, fun h => by simp at h, hG.keep hK6 (by simp)⟩
    | _ + 15, him, _ => exact absurd him (by omega)
  intro D eA wA hAll hG hL hA hV hN hM
  obtain ⟨a2, c2, ha2, hS2, hl2⟩ := hV 14 (by decide) 28 rfl
  have hRA := flag_is (hL.2 _ hF5 hR0) (fun e => hL.2 _ hF6 (e ▸ hR)) (fun hb => (hV 11 (by decide) 25 rfl).2 hb)
  refine o_gen [(0, .pointer (some ⟨r, 0, none⟩)), (1, .pointer (some ⟨xb, 0, none⟩)), (2, .int .u8 (f.toNat : Int)), (3, .int .i64 (q : Int)), (14, .pointer (some ⟨xb, 0, none⟩)), (28, .slice a2 1 c2)] ⟨hA 0 (free_of rfl), hA 1 (free_of rfl), hA 2 (free_of rfl), hA 3 (free_of rfl), hV 0 (by decide) 14 rfl, ha2, trivial⟩ (fun e3 => ?_)
  refine o_nilc rfl ?_
  refine o_fld (off := 6) rfl rfl ?_
  refine o_st (v := .slice a2 1 c2) rfl rfl rfl rfl hG (show 6 < 7 by decide) (fun w3 hB3 hK3 hZ3 => ?_)
  have hK03 : Keep [r, xb] w w3 := ((Keep.refl [r, xb] w).drew.trans hL.1 (by simp)).trans hK3 (by simp)
  have hSw3 : Sw k w.heap.size r mm xb cs p op w3 [] [(p : Int) + far cs q] (fl || decide (¬ q + 4 ≤ cs.length)) := ⟨none, 0, a2, c2, hB3, Sl.nil _ _ _, hS2.keep hK3 (fun z hz hm => by have := hl2 z hz; have := hX.lt; simp at hm; omega), by simp [Off], by simp, fun z hz => by have := hl2 z hz; omega, hRA.keep hK3 (by simpa using ⟨hkx, fun e => hC0.rx e.symm⟩)⟩
  refine o_nil ?_
  refine k_seq ?_
  refine k_region ?_
  refine m_ptr rfl rfl ?_
  refine m_int rfl rfl ?_
  refine n_add rfl rfl (by omega) ?_
  refine o_call rfl rfl (far_ok k w3 r mm (q + 4) cs _ hSw3.rdr (by omega)) (fun v w4 hv => ?_)
  obtain ⟨rfl, hR4, hK4, hZ4⟩ := hv
  have hSw4 := hSw3.flag hK4 hR4
  have hK04 : Keep [r, xb] w w4 := hK03.trans hK4 (by simp)
  refine m_int rfl rfl ?_
  refine o_nil ?_
  refine k_seq ?_
  refine k_seq ?_
  refine k_region ?_
  refine m_int rfl rfl ?_
  refine v8_eql (b := 8#8) rfl rfl ?_
  refine o_nil ?_
  refine k_cond rfl (fun h => ?_) (fun h => ?_)
  ·
    subst h
    refine k_seq ?_
    refine k_region ?_
    refine m_int rfl rfl ?_
    refine m_ptr rfl rfl ?_
    refine m_int rfl rfl ?_
    refine n_add rfl rfl (by omega) ?_
    refine o_call rfl rfl (far_ok k w4 r mm (q + 8) cs _ hR4 (by omega)) (fun v w5 hv => ?_)
    obtain ⟨rfl, hR5, hK5, hZ5⟩ := hv
    have hSw5 := hSw4.flag hK5 hR5
    have hK05 : Keep [r, xb] w w5 := hK04.trans hK5 (by simp)
    refine m_int rfl rfl ?_
    refine m_int rfl rfl ?_
    refine o_nil ?_
    refine k_seq ?_
    refine k_region ?_
    refine m_int rfl rfl ?_
    refine n_add rfl rfl (by omega) ?_
    refine m_int rfl rfl ?_
    refine o_nil ?_
    refine k_seq ?_
    refine k_seq ?_
    refine k_region ?_
    refine m_int rfl rfl ?_
    refine m_int rfl rfl ?_
    refine n_sub rfl rfl (by omega) ?_
    refine n_add rfl rfl (by omega) ?_
    refine m_int rfl rfl ?_
    refine o_nil ?_
    refine k_seq ?_
    refine k_cut (σ := Unit) (fun _ => [(0, .pointer (some ⟨r, 0, none⟩)), (1, .pointer (some ⟨xb, 0, none⟩)), (3, .int .i64 ((q + 12 : Nat) : Int)), (9, .int .i64 (far cs (q + 8) - far cs (q + 4) + 1)), (10, .int .i64 (far cs (q + 4))), (58, .bool (decide (far cs (q + 8) - far cs (q + 4) + 1 < 1 ∨ (cs.length : Int) < far cs (q + 8) - far cs (q + 4) + 1)))]) (fun _ w' => w' = w5) ?_ (fun _ e w5' hJ => ?_)
    ·
      refine k_region ?_
      refine m_int rfl rfl ?_
      refine b_lss rfl rfl ?_
      refine m_bool rfl rfl ?_
      refine o_split (t := 50) rfl (fun h => ?_) (fun h => ?_)
      ·
        refine g_no rfl rfl rfl ?_
        refine g_no rfl rfl rfl ?_
        refine g_no rfl rfl rfl ?_
        refine g_no rfl rfl rfl ?_
        refine g_no rfl rfl rfl ?_
        refine g_no rfl rfl rfl ?_
        refine g_no rfl rfl rfl ?_
        refine pick_t rfl rfl ?_
        refine o_nil ?_
        refine k_goal ⟨(), ⟨rfl, rfl, rfl, rfl, rfl, congrArg Value.bool (decide_eq_true (.inl h)).symm, trivial⟩, rfl⟩
      ·
        have h50 := h
        refine g_yes rfl rfl ?_
        refine m_int rfl rfl ?_
        refine g_yes rfl rfl ?_
        refine m_ptr rfl rfl ?_
        refine g_yes rfl rfl ?_
        refine o_nilc rfl ?_
        refine g_yes rfl rfl ?_
        refine o_fld0 rfl rfl ?_
        refine g_yes rfl rfl ?_
        refine o_ld rfl rfl (hSw5.rdr.choose_spec.choose_spec.1.at rfl) ?_
        refine g_yes rfl rfl ?_
        refine o_lens Try.underlying22 rfl ?_
        refine g_yes rfl rfl ?_
        refine b_gtr rfl rfl ?_
        refine pick_f rfl rfl ?_
        refine o_nil ?_
        refine k_goal ⟨(), ⟨rfl, rfl, rfl, rfl, rfl, congrArg Value.bool (decide_eq_decide.2 ⟨.inr, fun hh => hh.resolve_left h50⟩), trivial⟩, rfl⟩
    subst hJ
    refine k_cut (σ := Unit) (fun _ => [(0, .pointer (some ⟨r, 0, none⟩)), (1, .pointer (some ⟨xb, 0, none⟩)), (3, .int .i64 ((q + 12 : Nat) : Int)), (9, .int .i64 (far cs (q + 8) - far cs (q + 4) + 1)), (10, .int .i64 (far cs (q + 4)))]) (fun _ w' => Sw k w.heap.size r mm xb cs p op w' [] [(p : Int) + far cs q] (fl || decide (¬ q + 4 ≤ cs.length) || !decide (q + 4 + 4 ≤ cs.length) || !decide (q + 8 + 4 ≤ cs.length) || decide (far cs (q + 8) - far cs (q + 4) + 1 < 1 ∨ (cs.length : Int) < far cs (q + 8) - far cs (q + 4) + 1)) ∧ Keep [r, xb] w w') ?_ (fun _ e w7 hJ => ?_)
    ·
      refine k_cond rfl (fun h => ?_) (fun h => ?_)
      ·
        refine k_region ?_
        refine m_ptr rfl rfl ?_
        refine o_nilc rfl ?_
        refine o_fld (off := 2) rfl rfl ?_
        obtain ⟨ar, cr, hBr, hRr, h3, h4, h5⟩ := hSw5.rdr
        refine o_st (v := .bool true) rfl rfl rfl rfl hBr (show 2 < 3 by decide) (fun w6 hB6 hK6 hZ6 => ?_)
        refine o_nil ?_
        refine k_goal ⟨(), ⟨rfl, rfl, rfl, rfl, rfl, trivial⟩, ?_, hK05.trans hK6 (by simp)⟩
        rw [decide_eq_true h, Bool.or_true]
        exact hSw5.flag hK6 (Rdr.set hRr h3 h4 h5 hK6 hB6)
      refine k_skip ?_
      refine k_goal ⟨(), ⟨rfl, rfl, rfl, rfl, rfl, trivial⟩, ?_, hK05⟩
      rw [decide_eq_false h, Bool.or_false]
      exact hSw5
    refine k_seq ?_
    refine k_seq ?_
    refine k_region ?_
    refine m_int rfl rfl ?_
    refine o_nil ?_
    refine k_block ?_
    obtain ⟨hSw7, hK07⟩ := hJ
    refine k_loop (σ := Nat) (fun i => [(0, .pointer (some ⟨r, 0, none⟩)), (1, .pointer (some ⟨xb, 0, none⟩)), (3, .int .i64 ((q + 12 + 4 * i : Nat) : Int)), (9, .int .i64 (far cs (q + 8) - far cs (q + 4) + 1)), (10, .int .i64 (far cs (q + 4))), (12, .int .i64 (i : Int))]) (fun i w' => i ≤ tabN cs q ∧ (0 < i → i ≤ 4096) ∧ Sw k w.heap.size r mm xb cs p op w' (tabKeys cs q i) (tabJumps cs p q i) ((fl || decide (¬ q + 4 ≤ cs.length) || !decide (q + 4 + 4 ≤ cs.length) || !decide (q + 8 + 4 ≤ cs.length) || decide (far cs (q + 8) - far cs (q + 4) + 1 < 1 ∨ (cs.length : Int) < far cs (q + 8) - far cs (q + 4) + 1)) || decide (0 < i ∧ cs.length < q + 12 + 4 * i)) ∧ Keep [r, xb] w w') (fun i => tabN cs q - i) 0 ⟨rfl, rfl, rfl, rfl, rfl, rfl, trivial⟩ ⟨Nat.zero_le _, by simp, by rw [decide_eq_false (show ¬ (0 < 0 ∧ cs.length < q + 12 + 4 * 0) by omega), Bool.or_false]; exact hSw7, hK07⟩ (fun i e wS hJ => ?_)
    obtain ⟨hi, hi4, hSwi, hK0i⟩ := hJ
    obtain ⟨fi, hfi⟩ : ∃ fi, fi = ((fl || decide (¬ q + 4 ≤ cs.length) || !decide (q + 4 + 4 ≤ cs.length) || !decide (q + 8 + 4 ≤ cs.length) || decide (far cs (q + 8) - far cs (q + 4) + 1 < 1 ∨ (cs.length : Int) < far cs (q + 8) - far cs (q + 4) + 1)) || decide (0 < i ∧ cs.length < q + 12 + 4 * i)) := ⟨_, rfl⟩
    rw [← hfi] at hSwi
    refine k_seq ?_
    refine k_seq ?_
    refine k_region ?_
    refine m_int rfl rfl ?_
    refine m_int rfl rfl ?_
    refine b_lss rfl rfl ?_
    refine m_bool rfl rfl ?_
    refine o_split (t := 65) rfl (fun h => ?_) (fun h => ?_)
    ·
      have hin := h
      refine g_yes rfl rfl ?_
      refine m_ptr rfl rfl ?_
      refine g_yes rfl rfl ?_
      refine o_nilc rfl ?_
      refine g_yes rfl rfl ?_
      refine o_fld (off := 2) rfl rfl ?_
      refine g_yes rfl rfl ?_
      refine o_ld (v := .bool fi) rfl rfl (hSwi.rdr.choose_spec.choose_spec.1.at rfl) ?_
      refine g_yes rfl rfl ?_
      refine u_notb rfl ?_
      refine pick_t rfl rfl ?_
      refine o_nil ?_
      refine k_condb rfl (fun h => ?_) (fun h => ?_)
      rotate_left
      ·
        refine k_exit rfl ?_
        refine k_seq ?_
        refine k_region ?_
        refine m_int rfl rfl ?_
        refine m_int rfl rfl ?_
        refine o_nil ?_
        refine k_ret (ret_tmps (ts := [8]) (v := .int _ _) rfl rfl ?_)
        have hft : fi = true := by simpa using h
        exact ⟨q + 12 + 4 * i, _, _, fi, rfl, by omega, hSwi, hK0i, fun _ => tab_true hi (by rw [← hfi]; exact hft), fun hh => by rw [hft] at hh; cases hh⟩
      have hff : fi = false := by simpa using h
      subst hff
      have hfl := hfi.symm
      simp only [Bool.or_eq_false_iff, Bool.not_eq_false', decide_eq_false_iff_not, decide_eq_true_eq] at hfl
      have hFF : (fl || decide (¬ q + 4 ≤ cs.length) || !decide (q + 4 + 4 ≤ cs.length) || !decide (q + 8 + 4 ≤ cs.length) || decide (far cs (q + 8) - far cs (q + 4) + 1 < 1 ∨ (cs.length : Int) < far cs (q + 8) - far cs (q + 4) + 1)) = false := (Bool.or_eq_false_iff.1 hfi.symm).1
      have hi40 : i < 4096 := by omega
      have hN' : ((tabN cs q : Nat) : Int) = far cs (q + 8) - far cs (q + 4) + 1 := Int.toNat_of_nonneg (by omega)
      obtain ⟨ks, hks⟩ : ∃ ks, ks = tabKeys cs q i := ⟨_, rfl⟩
      obtain ⟨js, hjs⟩ : ∃ js, js = tabJumps cs p q i := ⟨_, rfl⟩
      rw [← hks, ← hjs] at hSwi
      have hkL : ks.length = i := by rw [hks, tabKeys_len]
      have hjL : js.length = i + 1 := by rw [hjs, tabJumps_len]
      have hfi12 := far_b cs (q + 12 + 4 * i)
      obtain ⟨ak, ck, aj, cj, hXs, hKs, hJs, hO, hbk, hbj, hRs⟩ := hSwi
      have hCx := cx_of hXs hKs hJs hO hbk hbj hRs hkx hkw
      have hSlt : ∀ b ∈ (r :: xb :: (blkOf ak ++ blkOf aj)), b < wS.heap.size := by
       intro b hb
       simp only [List.mem_cons, List.mem_append] at hb
       rcases hb with rfl | rfl | hb | hb
       · exact hRs.choose_spec.choose_spec.1.lt
       · exact hXs.lt
       · cases ak with
         | none => simp [blkOf] at hb
         | some z => simp [blkOf] at hb; subst hb; exact hKs.lt z rfl
       · cases aj with
         | none => simp [blkOf] at hb
         | some z => simp [blkOf] at hb; subst hb; exact hJs.lt z rfl
      have hnew : ∀ g, wS.heap.size ≤ g → Off (r :: xb :: (blkOf ak ++ blkOf aj)) (some ⟨g, 0, none⟩) := fun g hg z hz hm => by
       cases hz; have := hSlt _ hm; simp only at this; omega
      have hF1 : (fun w => Sl w 3 1 ak ks.length ck (ks.map iv)) ∈ fcts k r mm cs false (¬ q + 12 + 4 * i + 4 ≤ cs.length) ak ks.length ck (ks.map iv) (iv (far cs (q + 4) + (i : Int))) aj js.length cj (js.map iv) (iv ((p : Int) + far cs (q + 12 + 4 * i))) := by simp [fcts]
      have hF2 : (fun w => Sl w 3 1 ak (ks.length + 1) ck (ks.map iv ++ [iv (far cs (q + 4) + (i : Int))])) ∈ fcts k r mm cs false (¬ q + 12 + 4 * i + 4 ≤ cs.length) ak ks.length ck (ks.map iv) (iv (far cs (q + 4) + (i : Int))) aj js.length cj (js.map iv) (iv ((p : Int) + far cs (q + 12 + 4 * i))) := by simp [fcts]
      have hF3 : (fun w => Sl w 3 1 aj js.length cj (js.map iv)) ∈ fcts k r mm cs false (¬ q + 12 + 4 * i + 4 ≤ cs.length) ak ks.length ck (ks.map iv) (iv (far cs (q + 4) + (i : Int))) aj js.length cj (js.map iv) (iv ((p : Int) + far cs (q + 12 + 4 * i))) := by simp [fcts]
      have hF4 : (fun w => Sl w 3 1 aj (js.length + 1) cj (js.map iv ++ [iv ((p : Int) + far cs (q + 12 + 4 * i))])) ∈ fcts k r mm cs false (¬ q + 12 + 4 * i + 4 ≤ cs.length) ak ks.length ck (ks.map iv) (iv (far cs (q + 4) + (i : Int))) aj js.length cj (js.map iv) (iv ((p : Int) + far cs (q + 12 + 4 * i))) := by simp [fcts]
      have hF5 : fFlag k r mm cs false (¬ q + 12 + 4 * i + 4 ≤ cs.length) ∈ fcts k r mm cs false (¬ q + 12 + 4 * i + 4 ≤ cs.length) ak ks.length ck (ks.map iv) (iv (far cs (q + 4) + (i : Int))) aj js.length cj (js.map iv) (iv ((p : Int) + far cs (q + 12 + 4 * i))) := by simp [fcts]
      have hF6 : (fun w => Rdr k w r mm cs true) ∈ fcts k r mm cs false (¬ q + 12 + 4 * i + 4 ≤ cs.length) ak ks.length ck (ks.map iv) (iv (far cs (q + 4) + (i : Int))) aj js.length cj (js.map iv) (iv ((p : Int) + far cs (q + 12 + 4 * i))) := by simp [fcts]
      have hKs0 : Sl wS.drew 3 1 ak ks.length ck (ks.map iv) := hKs
      have hJs0 : Sl wS.drew 3 1 aj js.length cj (js.map iv) := hJs
      have hRs0 : fFlag k r mm cs false (¬ q + 12 + 4 * i + 4 ≤ cs.length) wS.drew := ⟨false, hRs, by simp⟩
      have hkl : (ks.map iv).length = ks.length := List.length_map _
      have hjl : (js.map iv).length = js.length := List.length_map _
      refine k_skip ?_
      refine k_seq ?_
      refine k_block ?_
      refine k_seq ?_
      refine k_anyG 28 (LeF (r :: xb :: (blkOf ak ++ blkOf aj)) (fcts k r mm cs false (¬ q + 12 + 4 * i + 4 ≤ cs.length) ak ks.length ck (ks.map iv) (iv (far cs (q + 4) + (i : Int))) aj js.length cj (js.map iv) (iv ((p : Int) + far cs (q + 12 + 4 * i))))) (fun iA => match iA with
          | 0 => fun v w => v = .pointer (some ⟨xb, 0, none⟩)
          | 1 => fun v w => v = .pointer (some ⟨xb, 0, none⟩)
          | 2 => fun v w => v = .pointer (some ⟨xb, 0, none⟩)
          | 3 => fun v w => v = .pointer (some ⟨xb, 0, none⟩)
          | 4 => fun v w => v = .pointer (some ⟨xb, 5, none⟩)
          | 5 => fun v w => v = .slice ak ks.length ck
          | 6 => fun v w => v = .int .i64 (far cs (q + 4))
          | 7 => fun v w => v = .int .i64 (i : Int)
          | 8 => fun v w => v = .int .i64 (far cs (q + 4) + (i : Int))
          | 9 => fun v w => ∃ g, v = .slice (some ⟨g, 0, none⟩) 1 1 ∧ Blk w g #[iv (far cs (q + 4) + (i : Int))] 3 ∧ wS.heap.size ≤ g
          | 10 => fun v w => ∃ a2 c2, v = .slice a2 (ks.length + 1) c2 ∧ Sl w 3 1 a2 (ks.length + 1) c2 (ks.map iv ++ [iv (far cs (q + 4) + (i : Int))]) ∧ ((a2 = ak ∧ c2 = ck) ∨ ∃ g, a2 = some ⟨g, 0, none⟩ ∧ wS.heap.size ≤ g ∧ g ≤ wS.heap.size + 1)
          | 11 => fun v w => v = .pointer (some ⟨xb, 0, none⟩)
          | 12 => fun v w => v = .pointer (some ⟨xb, 0, none⟩)
          | 13 => fun v w => v = .pointer (some ⟨xb, 6, none⟩)
          | 14 => fun v w => v = .slice aj js.length cj
          | 15 => fun v w => v = .pointer (some ⟨xb, 0, none⟩)
          | 16 => fun v w => v = .pointer (some ⟨xb, 0, none⟩)
          | 17 => fun v w => v = .pointer (some ⟨xb, 0, none⟩)
          | 18 => fun v w => v = .int .i64 (p : Int)
          | 19 => fun v w => v = .pointer (some ⟨r, 0, none⟩)
          | 20 => fun v w => v = .int .i64 ((q + 12 + 4 * i : Nat) : Int)
          | 21 => fun v w => v = .int .i64 (far cs ((q + 12 + 4 * i))) ∧ (¬ (q + 12 + 4 * i) + 4 ≤ cs.length → Rdr k w r mm cs true)
          | 22 => fun v w => v = .int .i64 ((p : Int) + far cs (q + 12 + 4 * i))
          | 23 => fun v w => ∃ g, v = .slice (some ⟨g, 0, none⟩) 1 1 ∧ Blk w g #[iv ((p : Int) + far cs (q + 12 + 4 * i))] 3 ∧ wS.heap.size ≤ g
          | 24 => fun v w => ∃ a2 c2, v = .slice a2 (js.length + 1) c2 ∧ Sl w 3 1 a2 (js.length + 1) c2 (js.map iv ++ [iv ((p : Int) + far cs (q + 12 + 4 * i))]) ∧ ((a2 = aj ∧ c2 = cj) ∨ ∃ g, a2 = some ⟨g, 0, none⟩ ∧ wS.heap.size + 2 ≤ g)
          | 25 => fun v w => v = .pointer (some ⟨xb, 0, none⟩)
          | 26 => fun v w => v = .pointer (some ⟨xb, 5, none⟩)
          | 27 => fun v w => True
          | _ => fun v w => True) [] (fun D w => (D 27 = false → Blk w xb #[iv p, iv 1, iv op, iv 0, iv 0, .slice ak ks.length ck, .slice aj js.length cj] 38) ∧ (D 27 = true → ∃ a2 c2, Blk w xb #[iv p, iv 1, iv op, iv 0, iv 0, .slice a2 (ks.length + 1) c2, .slice aj js.length cj] 38 ∧ Sl w 3 1 a2 (ks.length + 1) c2 (ks.map iv ++ [iv (far cs (q + 4) + (i : Int))]) ∧ ((a2 = ak ∧ c2 = ck) ∨ ∃ g, a2 = some ⟨g, 0, none⟩ ∧ wS.heap.size ≤ g ∧ g ≤ wS.heap.size + 1)) ∧ (D 9 = false → w.heap.size = wS.heap.size) ∧ (D 9 = true → wS.heap.size + 1 ≤ w.heap.size) ∧ (D 10 = false → w.heap.size ≤ wS.heap.size + 1) ∧ (D 23 = true → wS.heap.size + 2 ≤ w.heap.size)) rfl rfl rfl rfl rfl (LeF.refl _ _) (fun _ _ _ h1 h2 => h1.tr h2) ?_ (fun _ h => by simp at h) (⟨fun _ => hXs, fun h => (by cases h), fun _ => rfl, fun h => (by cases h), fun _ => Nat.le_succ _, fun h => (by cases h)⟩) ?_ ?_
      · intro iA v w w' h hL
        match iA, h with
        | 0, h =>
          exact h
        | 1, h =>
          exact h
        | 2, h =>
          exact h
        | 3, h =>
          exact h
        | 4, h =>
          exact h
        | 5, h =>
          exact h
        | 6, h =>
          exact h
        | 7, h =>
          exact h
        | 8, h =>
          exact h
        | 9, h =>
          obtain ⟨g, h1, h2, h3⟩ := h
          exact ⟨g, h1, h2.keep hL.1 (fun hm => by have := hSlt _ hm; omega), h3⟩
        | 10, h =>
          obtain ⟨a2, c2, h1, h2, h3⟩ := h
          refine ⟨a2, c2, h1, ?_, h3⟩
          rcases h3 with ⟨rfl, rfl⟩ | ⟨g, rfl, h5⟩
          · exact hL.2 _ hF2 h2
          · exact h2.keep hL.1 (hnew g (by omega))
        | 11, h =>
          exact h
        | 12, h =>
          exact h
        | 13, h =>
          exact h
        | 14, h =>
          exact h
        | 15, h =>
          exact h
        | 16, h =>
          exact h
        | 17, h =>
          exact h
        | 18, h =>
          exact h
        | 19, h =>
          exact h
        | 20, h =>
          exact h
        | 21, h =>
          exact ⟨h.1, fun hb => hL.2 _ hF6 (h.2 hb)⟩
        | 22, h =>
          exact h
        | 23, h =>
          obtain ⟨g, h1, h2, h3⟩ := h
          exact ⟨g, h1, h2.keep hL.1 (fun hm => by have := hSlt _ hm; omega), h3⟩
        | 24, h =>
          obtain ⟨a2, c2, h1, h2, h3⟩ := h
          refine ⟨a2, c2, h1, ?_, h3⟩
          rcases h3 with ⟨rfl, rfl⟩ | ⟨g, rfl, h5⟩
          · exact hL.2 _ hF4 h2
          · exact h2.keep hL.1 (hnew g (by omega))
        | 25, h =>
          exact h
        | 26, h =>
          exact h
        | 27, h =>
          exact h
        | _ + 28, h => trivial
      · intro iA o him hl D eA wA hDi hdp hSh hG hL hA hD
        match iA, him, hl with
        | 0, _, hl =>
          obtain rfl := Option.some.inj hl
          refine o_gen [(1, _)] ⟨hA 1 (free_of rfl), trivial⟩ (fun e2 => ?_)
          refine m_ptr rfl rfl ?_
          refine o_nil ⟨LeF.refl _ _ _, rfl, fun h => by simp at h, hG⟩
        | 1, _, hl =>
          obtain rfl := Option.some.inj hl
          refine o_gen [(1, _)] ⟨hA 1 (free_of rfl), trivial⟩ (fun e2 => ?_)
          refine m_ptr rfl rfl ?_
          refine o_nil ⟨LeF.refl _ _ _, rfl, fun h => by simp at h, hG⟩
        | 2, _, hl =>
          obtain rfl := Option.some.inj hl
          refine o_gen [(1, _)] ⟨hA 1 (free_of rfl), trivial⟩ (fun e2 => ?_)
          refine m_ptr rfl rfl ?_
          refine o_nil ⟨LeF.refl _ _ _, rfl, fun h => by simp at h, hG⟩
        | 3, _, hl =>
          obtain rfl := Option.some.inj hl
          refine o_gen [(76, _)] ⟨hD 2 (by decide) 76 rfl, trivial⟩ (fun e2 => ?_)
          refine o_nilc rfl ?_
          refine o_nil ⟨LeF.refl _ _ _, rfl, fun h => by simp at h, hG⟩
        | 4, _, hl =>
          obtain rfl := Option.some.inj hl
          refine o_gen [(77, _)] ⟨hD 3 (by decide) 77 rfl, trivial⟩ (fun e2 => ?_)
          refine o_fld (off := 5) rfl rfl ?_
          refine o_nil ⟨LeF.refl _ _ _, rfl, fun h => by simp at h, hG⟩
        | 5, _, hl =>
          obtain rfl := Option.some.inj hl
          refine o_gen [(78, _)] ⟨hD 4 (by decide) 78 rfl, trivial⟩ (fun e2 => ?_)
          have hst : D 27 = false := by
           cases hst : D 27 with
           | false => rfl
           | true => exact absurd (hSh 27 _ rfl hst 5 (by decide)) (by rw [hDi]; decide)
          refine o_ld rfl rfl ((hG.1 hst).at rfl) ?_
          refine o_nil ⟨LeF.refl _ _ _, rfl, fun h => by simp at h, hG⟩
        | 6, _, hl =>
          obtain rfl := Option.some.inj hl
          refine o_gen [(10, _)] ⟨hA 10 (free_of rfl), trivial⟩ (fun e2 => ?_)
          refine m_int rfl rfl ?_
          refine o_nil ⟨LeF.refl _ _ _, rfl, fun h => by simp at h, hG⟩
        | 7, _, hl =>
          obtain rfl := Option.some.inj hl
          refine o_gen [(12, _)] ⟨hA 12 (free_of rfl), trivial⟩ (fun e2 => ?_)
          refine m_int rfl rfl ?_
          refine o_nil ⟨LeF.refl _ _ _, rfl, fun h => by simp at h, hG⟩
        | 8, _, hl =>
          obtain rfl := Option.some.inj hl
          refine o_gen [(80, _), (81, _)] ⟨hD 6 (by decide) 80 rfl, hD 7 (by decide) 81 rfl, trivial⟩ (fun e2 => ?_)
          refine n_add rfl rfl (by omega) ?_
          refine o_nil ⟨LeF.refl _ _ _, rfl, fun h => by simp at h, hG⟩
        | 9, _, hl =>
          obtain rfl := Option.some.inj hl
          refine o_gen [(82, _)] ⟨hD 8 (by decide) 82 rfl, trivial⟩ (fun e2 => ?_)
          have hst : D 27 = false := by
           cases hst : D 27 with
           | false => rfl
           | true => exact absurd (hSh 27 _ rfl hst 9 (by decide)) (by rw [hDi]; decide)
          refine o_bsl (E := 3) (cs := #[iv (far cs (q + 4) + (i : Int))]) rfl (fun _ => by kernel_rfl) (fun g w6 hB6 hK6 hb6 hZ6 => ?_)
          have hsz := hL.1.size
          have hs0 := hG.2.2.1 hDi
          refine o_nil ⟨le_new hK6, ⟨g, rfl, hB6, by have : wS.drew.heap.size = wS.heap.size := rfl; omega⟩, fun h => by simp at h, ⟨fun h => (hG.1 h).keep hK6 (by simp), fun h => absurd (show D 27 = true from h) (by rw [hst]; decide), fun h => (by cases h), fun _ => (by omega), fun _ => (by omega), fun h => (by have := hG.2.2.2.2.2 h; omega)⟩⟩
        | 10, _, hl =>
          obtain rfl := Option.some.inj hl
          obtain ⟨g, hg, hgB, hgl⟩ := hD 9 (by decide) 83 rfl
          refine o_gen [(79, _), (83, _)] ⟨hD 5 (by decide) 79 rfl, hg, trivial⟩ (fun e2 => ?_)
          have hst : D 27 = false := by
           cases hst : D 27 with
           | false => rfl
           | true => exact absurd (hSh 27 _ rfl hst 10 (by decide)) (by rw [hDi]; decide)
          refine o_app2 Try.underlying36 inf3 rfl (by decide) rfl rfl (hL.2 _ hF1 hKs0) hgB.rd rfl (by simp [Value.oneCell', iv]) (by simp [maxLen]; omega) (by omega) (fun a2 c2 w6 hS6 hv6 => ?_)
          have hsz := hL.1.size
          have hs1 := hG.2.2.2.1 (hdp 9 (by decide))
          have hs2 := hG.2.2.2.2.1 hDi
          have hdr : wS.drew.heap.size = wS.heap.size := rfl
          rcases hv6 with ⟨rfl, rfl, hK6, hZ6⟩ | ⟨g6, rfl, hK6, hb6, hZ6⟩
          · refine o_nil ⟨le_k hCx (by intro b hb; simp [hb]) hK6 hkl hS6, ⟨_, _, rfl, hS6, .inl ⟨rfl, rfl⟩⟩, fun h => by simp at h, ⟨fun h => (hG.1 h).keep hK6 hCx.xk, fun h => absurd (show D 27 = true from h) (by rw [hst]; decide), fun h => absurd (show D 9 = false from h) (by rw [hdp 9 (by decide)]; decide), fun _ => (by omega), fun h => (by cases h), fun h => (by have := hG.2.2.2.2.2 h; omega)⟩⟩
          · refine o_nil ⟨le_new hK6, ⟨_, _, rfl, hS6, .inr ⟨g6, rfl, by omega, by omega⟩⟩, fun h => by simp at h, ⟨fun h => (hG.1 h).keep hK6 (by simp), fun h => absurd (show D 27 = true from h) (by rw [hst]; decide), fun h => absurd (show D 9 = false from h) (by rw [hdp 9 (by decide)]; decide), fun _ => (by omega), fun h => (by cases h), fun h => (by have := hG.2.2.2.2.2 h; omega)⟩⟩
        | 11, _, hl =>
          obtain rfl := Option.some.inj hl
          refine o_gen [(1, _)] ⟨hA 1 (free_of rfl), trivial⟩ (fun e2 => ?_)
          refine m_ptr rfl rfl ?_
          refine o_nil ⟨LeF.refl _ _ _, rfl, fun h => by simp at h, hG⟩
        | 12, _, hl =>
          obtain rfl := Option.some.inj hl
          refine o_gen [(85, _)] ⟨hD 11 (by decide) 85 rfl, trivial⟩ (fun e2 => ?_)
          refine o_nilc rfl ?_
          refine o_nil ⟨LeF.refl _ _ _, rfl, fun h => by simp at h, hG⟩
        | 13, _, hl =>
          obtain rfl := Option.some.inj hl
          refine o_gen [(86, _)] ⟨hD 12 (by decide) 86 rfl, trivial⟩ (fun e2 => ?_)
          refine o_fld (off := 6) rfl rfl ?_
          refine o_nil ⟨LeF.refl _ _ _, rfl, fun h => by simp at h, hG⟩
        | 14, _, hl =>
          obtain rfl := Option.some.inj hl
          refine o_gen [(87, _)] ⟨hD 13 (by decide) 87 rfl, trivial⟩ (fun e2 => ?_)
          have hst : D 27 = false := by
           cases hst : D 27 with
           | false => rfl
           | true => exact absurd (hSh 27 _ rfl hst 14 (by decide)) (by rw [hDi]; decide)
          refine o_ld rfl rfl ((hG.1 hst).at rfl) ?_
          refine o_nil ⟨LeF.refl _ _ _, rfl, fun h => by simp at h, hG⟩
        | 15, _, hl =>
          obtain rfl := Option.some.inj hl
          refine o_gen [(1, _)] ⟨hA 1 (free_of rfl), trivial⟩ (fun e2 => ?_)
          refine m_ptr rfl rfl ?_
          refine o_nil ⟨LeF.refl _ _ _, rfl, fun h => by simp at h, hG⟩
        | 16, _, hl =>
          obtain rfl := Option.some.inj hl
          refine o_gen [(89, _)] ⟨hD 15 (by decide) 89 rfl, trivial⟩ (fun e2 => ?_)
          refine o_nilc rfl ?_
          refine o_nil ⟨LeF.refl _ _ _, rfl, fun h => by simp at h, hG⟩
        | 17, _, hl =>
          obtain rfl := Option.some.inj hl
          refine o_gen [(90, _)] ⟨hD 16 (by decide) 90 rfl, trivial⟩ (fun e2 => ?_)
          refine o_fld0 rfl rfl ?_
          refine o_nil ⟨LeF.refl _ _ _, rfl, fun h => by simp at h, hG⟩
        | 18, _, hl =>
          obtain rfl := Option.some.inj hl
          refine o_gen [(91, _)] ⟨hD 17 (by decide) 91 rfl, trivial⟩ (fun e2 => ?_)
          have hst : D 27 = false := by
           cases hst : D 27 with
           | false => rfl
           | true => exact absurd (hSh 27 _ rfl hst 18 (by decide)) (by rw [hDi]; decide)
          refine o_ld rfl rfl ((hG.1 hst).at rfl) ?_
          refine o_nil ⟨LeF.refl _ _ _, rfl, fun h => by simp at h, hG⟩
        | 19, _, hl =>
          obtain rfl := Option.some.inj hl
          refine o_gen [(0, _)] ⟨hA 0 (free_of rfl), trivial⟩ (fun e2 => ?_)
          refine m_ptr rfl rfl ?_
          refine o_nil ⟨LeF.refl _ _ _, rfl, fun h => by simp at h, hG⟩
        | 20, _, hl =>
          obtain rfl := Option.some.inj hl
          refine o_gen [(3, _)] ⟨hA 3 (free_of rfl), trivial⟩ (fun e2 => ?_)
          refine m_int rfl rfl ?_
          refine o_nil ⟨LeF.refl _ _ _, rfl, fun h => by simp at h, hG⟩
        | 21, _, hl =>
          obtain rfl := Option.some.inj hl
          refine o_gen [(93, _), (94, _)] ⟨hD 19 (by decide) 93 rfl, hD 20 (by decide) 94 rfl, trivial⟩ (fun e2 => ?_)
          have hst : D 27 = false := by
           cases hst : D 27 with
           | false => rfl
           | true => exact absurd (hSh 27 _ rfl hst 21 (by decide)) (by rw [hDi]; decide)
          obtain ⟨f0, hf0, hf1⟩ := hL.2 _ hF5 hRs0
          refine o_call rfl rfl (far_ok k _ r mm ((q + 12 + 4 * i)) cs f0 hf0 (by omega)) (fun v w6 hv => ?_)
          obtain ⟨rfl, hR6, hK6, hZ6⟩ := hv
          have hL6 := le_far (S := (r :: xb :: (blkOf ak ++ blkOf aj))) (nk := ks.length) (ck := ck) (ks := ks.map iv) (kx := iv (far cs (q + 4) + (i : Int))) (nj := js.length) (cj := cj) (js := js.map iv) (jx := iv ((p : Int) + far cs (q + 12 + 4 * i))) (bad := ¬ q + 12 + 4 * i + 4 ≤ cs.length) hCx (by simp) hK6 hf0 hf1 hR6 (fun hh => by omega)
          refine o_nil ⟨hL6, ⟨rfl, fun hh => ?_⟩, fun h => by simp at h, ⟨fun h => (hG.1 h).keep hK6 (by simpa using fun e => hCx.rx e.symm), fun h => absurd (show D 27 = true from h) (by rw [hst]; decide), fun h => hZ6.trans (hG.2.2.1 h), fun h => hZ6 ▸ hG.2.2.2.1 h, fun h => hZ6 ▸ hG.2.2.2.2.1 h, fun h => hZ6 ▸ hG.2.2.2.2.2 h⟩⟩
          rw [decide_eq_false hh, Bool.not_false, Bool.or_true] at hR6
          exact hR6
        | 22, _, hl =>
          obtain rfl := Option.some.inj hl
          refine o_gen [(92, _), (95, _)] ⟨hD 18 (by decide) 92 rfl, (hD 21 (by decide) 95 rfl).1, trivial⟩ (fun e2 => ?_)
          refine n_add rfl rfl (by omega) ?_
          refine o_nil ⟨LeF.refl _ _ _, rfl, fun h => by simp at h, hG⟩
        | 23, _, hl =>
          obtain rfl := Option.some.inj hl
          refine o_gen [(96, _)] ⟨hD 22 (by decide) 96 rfl, trivial⟩ (fun e2 => ?_)
          have hst : D 27 = false := by
           cases hst : D 27 with
           | false => rfl
           | true => exact absurd (hSh 24 _ rfl (hSh 27 _ rfl hst 24 (by decide)) 23 (by decide)) (by rw [hDi]; decide)
          refine o_bsl (E := 3) (cs := #[iv ((p : Int) + far cs (q + 12 + 4 * i))]) rfl (fun _ => by kernel_rfl) (fun g w6 hB6 hK6 hb6 hZ6 => ?_)
          have hsz := hL.1.size
          have d1 := hdp 22 (by decide)
          have d2 := hSh 22 _ rfl d1 21 (by decide)
          have d3 := hSh 21 _ rfl d2 10 (by decide)
          have d4 := hSh 10 _ rfl d3 9 (by decide)
          have hs1 := hG.2.2.2.1 d4
          refine o_nil ⟨le_new hK6, ⟨g, rfl, hB6, by have : wS.drew.heap.size = wS.heap.size := rfl; omega⟩, fun h => by simp at h, ⟨fun h => (hG.1 h).keep hK6 (by simp), fun h => absurd (show D 27 = true from h) (by rw [hst]; decide), fun h => absurd (show D 9 = false from h) (by rw [d4]; decide), fun _ => (by omega), fun h => absurd (show D 10 = false from h) (by rw [d3]; decide), fun _ => (by omega)⟩⟩
        | 24, _, hl =>
          obtain rfl := Option.some.inj hl
          obtain ⟨g, hg, hgB, hgl⟩ := hD 23 (by decide) 97 rfl
          refine o_gen [(88, _), (97, _)] ⟨hD 14 (by decide) 88 rfl, hg, trivial⟩ (fun e2 => ?_)
          have hst : D 27 = false := by
           cases hst : D 27 with
           | false => rfl
           | true => exact absurd (hSh 27 _ rfl hst 24 (by decide)) (by rw [hDi]; decide)
          refine o_app2 Try.underlying36 inf3 rfl (by decide) rfl rfl (hL.2 _ hF3 hJs0) hgB.rd rfl (by simp [Value.oneCell', iv]) (by simp [maxLen]; omega) (by omega) (fun a2 c2 w6 hS6 hv6 => ?_)
          have hsz := hL.1.size
          have d1 := hdp 23 (by decide)
          have d1b := hSh 23 _ rfl d1 22 (by decide)
          have d2 := hSh 22 _ rfl d1b 21 (by decide)
          have d3 := hSh 21 _ rfl d2 10 (by decide)
          have d4 := hSh 10 _ rfl d3 9 (by decide)
          have hs1 := hG.2.2.2.1 (d4)
          have hs2 := hG.2.2.2.2.2 (hdp 23 (by decide))
          have hdr : wS.drew.heap.size = wS.heap.size := rfl
          rcases hv6 with ⟨rfl, rfl, hK6, hZ6⟩ | ⟨g6, rfl, hK6, hb6, hZ6⟩
          · refine o_nil ⟨le_j hCx (by intro b hb; simp [hb]) hK6 hjl hS6, ⟨_, _, rfl, hS6, .inl ⟨rfl, rfl⟩⟩, fun h => by simp at h, ⟨fun h => (hG.1 h).keep hK6 hCx.xj, fun h => absurd (show D 27 = true from h) (by rw [hst]; decide), fun h => absurd (show D 9 = false from h) (by rw [d4]; decide), fun _ => (by omega), fun h => absurd (show D 10 = false from h) (by rw [d3]; decide), fun h => (by have := hG.2.2.2.2.2 h; omega)⟩⟩
          · refine o_nil ⟨le_new hK6, ⟨_, _, rfl, hS6, .inr ⟨g6, rfl, by omega⟩⟩, fun h => by simp at h, ⟨fun h => (hG.1 h).keep hK6 (by simp), fun h => absurd (show D 27 = true from h) (by rw [hst]; decide), fun h => absurd (show D 9 = false from h) (by rw [d4]; decide), fun _ => (by omega), fun h => absurd (show D 10 = false from h) (by rw [d3]; decide), fun h => (by have := hG.2.2.2.2.2 h; omega)⟩⟩
        | 25, _, hl =>
          obtain rfl := Option.some.inj hl
          refine o_gen [(74, _)] ⟨hD 0 (by decide) 74 rfl, trivial⟩ (fun e2 => ?_)
          refine o_nilc rfl ?_
          refine o_nil ⟨LeF.refl _ _ _, rfl, fun h => by simp at h, hG⟩
        | 26, _, hl =>
          obtain rfl := Option.some.inj hl
          refine o_gen [(99, _)] ⟨hD 25 (by decide) 99 rfl, trivial⟩ (fun e2 => ?_)
          refine o_fld (off := 5) rfl rfl ?_
          refine o_nil ⟨LeF.refl _ _ _, rfl, fun h => by simp at h, hG⟩
        | 27, _, hl =>
          obtain rfl := Option.some.inj hl
          obtain ⟨a2, c2, ha2, hS2, hv2⟩ := hD 10 (by decide) 84 rfl
          refine o_gen [(84, _), (100, _)] ⟨ha2, hD 26 (by decide) 100 rfl, trivial⟩ (fun e2 => ?_)
          refine o_st (v := .slice a2 (ks.length + 1) c2) rfl rfl rfl rfl (hG.1 hDi) (show 5 < 7 by decide) (fun w6 hB6 hK6 hZ6 => ?_)
          have hS6 : Sl w6 3 1 a2 (ks.length + 1) c2 (ks.map iv ++ [iv (far cs (q + 4) + (i : Int))]) := hS2.keep hK6 (by
           rcases hv2 with ⟨rfl, rfl⟩ | ⟨g, rfl, hg1, hg2⟩
           · exact off_blk fun b hb hm => by simp at hm; subst hm; exact hCx.xk hb
           · intro z hz hm; cases hz; simp at hm; have := hXs.lt; omega)
          refine o_nil ⟨le_x hCx (by simp) hK6, trivial, fun h => by simp at h, ⟨fun h => (by cases h), fun _ => ⟨a2, c2, hB6, hS6, hv2⟩, fun h => hZ6.trans (hG.2.2.1 h), fun h => hZ6 ▸ hG.2.2.2.1 h, fun h => hZ6 ▸ hG.2.2.2.2.1 h, fun h => hZ6 ▸ hG.2.2.2.2.2 h⟩⟩
        | _ + 28, him, _ => exact absurd him (by omega)
      intro D eA wA hAll hG hL hA hV hN hM
      obtain ⟨a2, c2, hX7, hS7, hv7⟩ := hG.2.1 (hAll 27 (by decide) (by decide))
      obtain ⟨b2, d2, hb2, hT7, hu7⟩ := hV 24 (by decide) 98 rfl
      have hRT := hL.2 _ hF5 hRs0
      have hfs : (¬ q + 12 + 4 * i + 4 ≤ cs.length) → Rdr k wA r mm cs true := fun hb => by
       exact (hV 21 (by decide) 95 rfl).2 (by omega)
      refine o_gen [(0, .pointer (some ⟨r, 0, none⟩)), (1, .pointer (some ⟨xb, 0, none⟩)), (3, .int .i64 ((q + 12 + 4 * i : Nat) : Int)), (9, .int .i64 (far cs (q + 8) - far cs (q + 4) + 1)), (10, .int .i64 (far cs (q + 4))), (12, .int .i64 (i : Int)), (98, .slice b2 (js.length + 1) d2), (75, .pointer (some ⟨xb, 0, none⟩))] ⟨hA 0 (free_of rfl), hA 1 (free_of rfl), hA 3 (free_of rfl), hA 9 (free_of rfl), hA 10 (free_of rfl), hA 12 (free_of rfl), hb2, hV 1 (by decide) 75 rfl, trivial⟩ (fun e3 => ?_)
      refine o_nilc rfl ?_
      refine o_fld (off := 6) rfl rfl ?_
      refine o_st (v := .slice b2 (js.length + 1) d2) rfl rfl rfl rfl hX7 (show 6 < 7 by decide) (fun w8 hB8 hK8 hZ8 => ?_)
      refine o_nil ?_
      refine k_region ?_
      refine m_int rfl rfl ?_
      refine n_add rfl rfl (by omega) ?_
      refine m_int rfl rfl ?_
      refine o_nil ?_
      refine k_blk ?_
      refine k_region ?_
      refine m_int rfl rfl ?_
      refine n_add rfl rfl (by omega) ?_
      refine m_int rfl rfl ?_
      refine o_nil ?_
      have hS8 : Sl w8 3 1 a2 (ks.length + 1) c2 (ks.map iv ++ [iv (far cs (q + 4) + (i : Int))]) := hS7.keep hK8 (by
       rcases hv7 with ⟨rfl, rfl⟩ | ⟨g, rfl, hg1, hg2⟩
       · exact off_blk fun b hb hm => by simp at hm; subst hm; exact hCx.xk hb
       · intro z hz hm; cases hz; simp at hm; have := hXs.lt; omega)
      have hT8 : Sl w8 3 1 b2 (js.length + 1) d2 (js.map iv ++ [iv ((p : Int) + far cs (q + 12 + 4 * i))]) := hT7.keep hK8 (by
       rcases hu7 with ⟨rfl, rfl⟩ | ⟨g, rfl, hg1⟩
       · exact off_blk fun b hb hm => by simp at hm; subst hm; exact hCx.xj hb
       · intro z hz hm; cases hz; simp at hm; have := hXs.lt; omega)
      have hR8 := (flag_is hRT (by simp) hfs).keep hK8 (by simpa using ⟨hkx, fun e => hCx.rx e.symm⟩)
      have hK08 : Keep [r, xb] w w8 := by
       refine (hK0i.drew.trans hL.1 (fun b hb hlt => ?_)).trans hK8 (by simp)
       simp only [List.mem_cons, List.mem_append] at hb
       rcases hb with rfl | rfl | hb | hb
       · simp
       · simp
       · cases ak with
         | none => simp [blkOf] at hb
         | some z => simp [blkOf] at hb; subst hb; have := hbk z rfl; omega
       · cases aj with
         | none => simp [blkOf] at hb
         | some z => simp [blkOf] at hb; subst hb; have := hbj z rfl; omega
      refine k_goal ⟨i + 1, ⟨rfl, rfl, ?_, rfl, rfl, rfl, trivial⟩, ⟨by omega, fun _ => by omega, ?_, hK08⟩, by omega⟩
      · exact congrArg (Value.int .i64) (by omega)
      · rw [hFF, show decide (0 < i + 1 ∧ cs.length < q + 12 + 4 * (i + 1)) = decide (¬ q + 12 + 4 * i + 4 ≤ cs.length) from decide_eq_decide.2 (by omega)]
        exact Sw.of (by rw [tabKeys_succ, hks]) (by rw [tabJumps_succ, hjs]) hB8 hS8 hT8 hO hbk hbj hKs.lt hJs.lt hK0i.size hv7 hu7 hR8
    ·
      have hin := h
      refine g_no rfl rfl rfl ?_
      refine g_no rfl rfl rfl ?_
      refine g_no rfl rfl rfl ?_
      refine g_no rfl rfl rfl ?_
      refine g_no rfl rfl rfl ?_
      refine pick_f rfl rfl ?_
      refine o_nil ?_
      refine k_condf rfl ?_
      refine k_exit rfl ?_
      refine k_seq ?_
      refine k_region ?_
      refine m_int rfl rfl ?_
      refine m_int rfl rfl ?_
      refine o_nil ?_
      refine k_ret (ret_tmps (ts := [8]) (v := .int _ _) rfl rfl ?_)
      refine ⟨q + 12 + 4 * i, _, _, fi, rfl, by omega, hSwi, hK0i, fun hh => tab_true hi (by rw [← hfi]; exact hh), fun hh => ?_⟩
      obtain ⟨h1, h2, h3⟩ := tab_false hi hin (by rw [← hfi]; exact hh)
      subst h3
      exact ⟨h1, h2, rfl⟩
  have hf9 : f = 9#8 := hf.resolve_left h
  subst hf9
  refine k_skip ?_
  refine k_seq ?_
  refine k_region ?_
  refine m_int rfl rfl ?_
  refine n_add rfl rfl (by omega) ?_
  refine m_int rfl rfl ?_
  refine o_nil ?_
  refine k_seq ?_
  refine k_seq ?_
  refine k_cut (σ := Unit) (fun _ => [(0, .pointer (some ⟨r, 0, none⟩)), (1, .pointer (some ⟨xb, 0, none⟩)), (3, .int .i64 ((q + 8 : Nat) : Int)), (9, .int .i64 (far cs (q + 4))), (118, .bool (decide (far cs (q + 4) < 0 ∨ (cs.length : Int) < far cs (q + 4))))]) (fun _ w' => w' = w4) ?_ (fun _ e w4' hJ => ?_)
  ·
    refine k_region ?_
    refine m_int rfl rfl ?_
    refine b_lss rfl rfl ?_
    refine m_bool rfl rfl ?_
    refine o_split (t := 110) rfl (fun h => ?_) (fun h => ?_)
    ·
      refine g_no rfl rfl rfl ?_
      refine g_no rfl rfl rfl ?_
      refine g_no rfl rfl rfl ?_
      refine g_no rfl rfl rfl ?_
      refine g_no rfl rfl rfl ?_
      refine g_no rfl rfl rfl ?_
      refine g_no rfl rfl rfl ?_
      refine pick_t rfl rfl ?_
      refine o_nil ?_
      refine k_goal ⟨(), ⟨rfl, rfl, rfl, rfl, congrArg Value.bool (decide_eq_true (.inl h)).symm, trivial⟩, rfl⟩
    ·
      have h110 := h
      refine g_yes rfl rfl ?_
      refine m_int rfl rfl ?_
      refine g_yes rfl rfl ?_
      refine m_ptr rfl rfl ?_
      refine g_yes rfl rfl ?_
      refine o_nilc rfl ?_
      refine g_yes rfl rfl ?_
      refine o_fld0 rfl rfl ?_
      refine g_yes rfl rfl ?_
      refine o_ld rfl rfl (hSw4.rdr.choose_spec.choose_spec.1.at rfl) ?_
      refine g_yes rfl rfl ?_
      refine o_lens Try.underlying22 rfl ?_
      refine g_yes rfl rfl ?_
      refine b_gtr rfl rfl ?_
      refine pick_f rfl rfl ?_
      refine o_nil ?_
      refine k_goal ⟨(), ⟨rfl, rfl, rfl, rfl, congrArg Value.bool (decide_eq_decide.2 ⟨.inr, fun hh => hh.resolve_left h110⟩), trivial⟩, rfl⟩
  subst hJ
  refine k_cut (σ := Unit) (fun _ => [(0, .pointer (some ⟨r, 0, none⟩)), (1, .pointer (some ⟨xb, 0, none⟩)), (3, .int .i64 ((q + 8 : Nat) : Int)), (9, .int .i64 (far cs (q + 4)))]) (fun _ w' => Sw k w.heap.size r mm xb cs p op w' [] [(p : Int) + far cs q] (fl || decide (¬ q + 4 ≤ cs.length) || !decide (q + 4 + 4 ≤ cs.length) || decide (far cs (q + 4) < 0 ∨ (cs.length : Int) < far cs (q + 4))) ∧ Keep [r, xb] w w') ?_ (fun _ e w7 hJ => ?_)
  ·
    refine k_cond rfl (fun h => ?_) (fun h => ?_)
    ·
      refine k_region ?_
      refine m_ptr rfl rfl ?_
      refine o_nilc rfl ?_
      refine o_fld (off := 2) rfl rfl ?_
      obtain ⟨ar, cr, hBr, hRr, h3, h4, h5⟩ := hSw4.rdr
      refine o_st (v := .bool true) rfl rfl rfl rfl hBr (show 2 < 3 by decide) (fun w6 hB6 hK6 hZ6 => ?_)
      refine o_nil ?_
      refine k_goal ⟨(), ⟨rfl, rfl, rfl, rfl, trivial⟩, ?_, hK04.trans hK6 (by simp)⟩
      rw [decide_eq_true h, Bool.or_true]
      exact hSw4.flag hK6 (Rdr.set hRr h3 h4 h5 hK6 hB6)
    refine k_skip ?_
    refine k_goal ⟨(), ⟨rfl, rfl, rfl, rfl, trivial⟩, ?_, hK04⟩
    rw [decide_eq_false h, Bool.or_false]
    exact hSw4
  refine k_seq ?_
  refine k_seq ?_
  refine k_region ?_
  refine m_int rfl rfl ?_
  refine o_nil ?_
  refine k_block ?_
  obtain ⟨hSw7, hK07⟩ := hJ
  refine k_loop (σ := Nat) (fun i => [(0, .pointer (some ⟨r, 0, none⟩)), (1, .pointer (some ⟨xb, 0, none⟩)), (3, .int .i64 ((q + 8 + 8 * i : Nat) : Int)), (9, .int .i64 (far cs (q + 4))), (13, .int .i64 (i : Int))]) (fun i w' => i ≤ lukN cs q ∧ (0 < i → i ≤ 4096) ∧ Sw k w.heap.size r mm xb cs p op w' (lukKeys cs q i) (lukJumps cs p q i) ((fl || decide (¬ q + 4 ≤ cs.length) || !decide (q + 4 + 4 ≤ cs.length) || decide (far cs (q + 4) < 0 ∨ (cs.length : Int) < far cs (q + 4))) || decide (0 < i ∧ cs.length < q + 8 + 8 * i) || !decide (rise cs (q + 8) i)) ∧ Keep [r, xb] w w') (fun i => lukN cs q - i) 0 ⟨rfl, rfl, rfl, rfl, rfl, trivial⟩ ⟨Nat.zero_le _, by simp, by rw [decide_eq_false (show ¬ (0 < 0 ∧ cs.length < q + 8 + 8 * 0) by omega), Bool.or_false, decide_eq_true (show rise cs (q + 8) 0 from fun j h0 hj => by omega), Bool.not_true, Bool.or_false]; exact hSw7, hK07⟩ (fun i e wS hJ => ?_)
  obtain ⟨hi, hi4, hSwi, hK0i⟩ := hJ
  obtain ⟨fi, hfi⟩ : ∃ fi, fi = ((fl || decide (¬ q + 4 ≤ cs.length) || !decide (q + 4 + 4 ≤ cs.length) || decide (far cs (q + 4) < 0 ∨ (cs.length : Int) < far cs (q + 4))) || decide (0 < i ∧ cs.length < q + 8 + 8 * i) || !decide (rise cs (q + 8) i)) := ⟨_, rfl⟩
  rw [← hfi] at hSwi
  refine k_seq ?_
  refine k_seq ?_
  refine k_region ?_
  refine m_int rfl rfl ?_
  refine m_int rfl rfl ?_
  refine b_lss rfl rfl ?_
  refine m_bool rfl rfl ?_
  refine o_split (t := 125) rfl (fun h => ?_) (fun h => ?_)
  ·
    have hin := h
    refine g_yes rfl rfl ?_
    refine m_ptr rfl rfl ?_
    refine g_yes rfl rfl ?_
    refine o_nilc rfl ?_
    refine g_yes rfl rfl ?_
    refine o_fld (off := 2) rfl rfl ?_
    refine g_yes rfl rfl ?_
    refine o_ld (v := .bool fi) rfl rfl (hSwi.rdr.choose_spec.choose_spec.1.at rfl) ?_
    refine g_yes rfl rfl ?_
    refine u_notb rfl ?_
    refine pick_t rfl rfl ?_
    refine o_nil ?_
    refine k_condb rfl (fun h => ?_) (fun h => ?_)
    rotate_left
    ·
      refine k_exit rfl ?_
      refine k_seq ?_
      refine k_region ?_
      refine m_int rfl rfl ?_
      refine m_int rfl rfl ?_
      refine o_nil ?_
      refine k_ret (ret_tmps (ts := [8]) (v := .int _ _) rfl rfl ?_)
      have hft : fi = true := by simpa using h
      exact ⟨q + 8 + 8 * i, _, _, fi, rfl, by omega, hSwi, hK0i, fun _ => luk_true hi (by rw [← hfi]; exact hft), fun hh => by rw [hft] at hh; cases hh⟩
    have hff : fi = false := by simpa using h
    subst hff
    have hfl := hfi.symm
    simp only [Bool.or_eq_false_iff, Bool.not_eq_false', decide_eq_false_iff_not, decide_eq_true_eq] at hfl
    have hFF : (fl || decide (¬ q + 4 ≤ cs.length) || !decide (q + 4 + 4 ≤ cs.length) || decide (far cs (q + 4) < 0 ∨ (cs.length : Int) < far cs (q + 4))) = false := (Bool.or_eq_false_iff.1 (Bool.or_eq_false_iff.1 hfi.symm).1).1
    have hrise := hfl.2
    have hi40 : i < 4096 := by omega
    have hN' : ((lukN cs q : Nat) : Int) = far cs (q + 4) := Int.toNat_of_nonneg (by omega)
    obtain ⟨ks, hks⟩ : ∃ ks, ks = lukKeys cs q i := ⟨_, rfl⟩
    obtain ⟨js, hjs⟩ : ∃ js, js = lukJumps cs p q i := ⟨_, rfl⟩
    rw [← hks, ← hjs] at hSwi
    have hkL : ks.length = i := by rw [hks, lukKeys_len]
    have hjL : js.length = i + 1 := by rw [hjs, lukJumps_len]
    have hfi12 := far_b cs (q + 8 + 8 * i + 4)
    obtain ⟨ak, ck, aj, cj, hXs, hKs, hJs, hO, hbk, hbj, hRs⟩ := hSwi
    have hCx := cx_of hXs hKs hJs hO hbk hbj hRs hkx hkw
    have hSlt : ∀ b ∈ (r :: xb :: (blkOf ak ++ blkOf aj)), b < wS.heap.size := by
     intro b hb
     simp only [List.mem_cons, List.mem_append] at hb
     rcases hb with rfl | rfl | hb | hb
     · exact hRs.choose_spec.choose_spec.1.lt
     · exact hXs.lt
     · cases ak with
       | none => simp [blkOf] at hb
       | some z => simp [blkOf] at hb; subst hb; exact hKs.lt z rfl
     · cases aj with
       | none => simp [blkOf] at hb
       | some z => simp [blkOf] at hb; subst hb; exact hJs.lt z rfl
    have hnew : ∀ g, wS.heap.size ≤ g → Off (r :: xb :: (blkOf ak ++ blkOf aj)) (some ⟨g, 0, none⟩) := fun g hg z hz hm => by
     cases hz; have := hSlt _ hm; simp only at this; omega
    have hF1 : (fun w => Sl w 3 1 ak ks.length ck (ks.map iv)) ∈ fcts k r mm cs false (¬ q + 8 + 8 * i + 4 + 4 ≤ cs.length) ak ks.length ck (ks.map iv) (iv (far cs (q + 8 + 8 * i))) aj js.length cj (js.map iv) (iv ((p : Int) + far cs (q + 8 + 8 * i + 4))) := by simp [fcts]
    have hF2 : (fun w => Sl w 3 1 ak (ks.length + 1) ck (ks.map iv ++ [iv (far cs (q + 8 + 8 * i))])) ∈ fcts k r mm cs false (¬ q + 8 + 8 * i + 4 + 4 ≤ cs.length) ak ks.length ck (ks.map iv) (iv (far cs (q + 8 + 8 * i))) aj js.length cj (js.map iv) (iv ((p : Int) + far cs (q + 8 + 8 * i + 4))) := by simp [fcts]
    have hF3 : (fun w => Sl w 3 1 aj js.length cj (js.map iv)) ∈ fcts k r mm cs false (¬ q + 8 + 8 * i + 4 + 4 ≤ cs.length) ak ks.length ck (ks.map iv) (iv (far cs (q + 8 + 8 * i))) aj js.length cj (js.map iv) (iv ((p : Int) + far cs (q + 8 + 8 * i + 4))) := by simp [fcts]
    have hF4 : (fun w => Sl w 3 1 aj (js.length + 1) cj (js.map iv ++ [iv ((p : Int) + far cs (q + 8 + 8 * i + 4))])) ∈ fcts k r mm cs false (¬ q + 8 + 8 * i + 4 + 4 ≤ cs.length) ak ks.length ck (ks.map iv) (iv (far cs (q + 8 + 8 * i))) aj js.length cj (js.map iv) (iv ((p : Int) + far cs (q + 8 + 8 * i + 4))) := by simp [fcts]
    have hF5 : fFlag k r mm cs false (¬ q + 8 + 8 * i + 4 + 4 ≤ cs.length) ∈ fcts k r mm cs false (¬ q + 8 + 8 * i + 4 + 4 ≤ cs.length) ak ks.length ck (ks.map iv) (iv (far cs (q + 8 + 8 * i))) aj js.length cj (js.map iv) (iv ((p : Int) + far cs (q + 8 + 8 * i + 4))) := by simp [fcts]
    have hF6 : (fun w => Rdr k w r mm cs true) ∈ fcts k r mm cs false (¬ q + 8 + 8 * i + 4 + 4 ≤ cs.length) ak ks.length ck (ks.map iv) (iv (far cs (q + 8 + 8 * i))) aj js.length cj (js.map iv) (iv ((p : Int) + far cs (q + 8 + 8 * i + 4))) := by simp [fcts]
    have hKs0 : Sl wS.drew 3 1 ak ks.length ck (ks.map iv) := hKs
    have hJs0 : Sl wS.drew 3 1 aj js.length cj (js.map iv) := hJs
    have hRs0 : fFlag k r mm cs false (¬ q + 8 + 8 * i + 4 + 4 ≤ cs.length) wS.drew := ⟨false, hRs, by simp⟩
    have hkl : (ks.map iv).length = ks.length := List.length_map _
    have hjl : (js.map iv).length = js.length := List.length_map _
    refine k_skip ?_
    refine k_seq ?_
    refine k_block ?_
    refine k_seq ?_
    refine k_anyG 29 (LeF (r :: xb :: (blkOf ak ++ blkOf aj)) (fcts k r mm cs false (¬ q + 8 + 8 * i + 4 + 4 ≤ cs.length) ak ks.length ck (ks.map iv) (iv (far cs (q + 8 + 8 * i))) aj js.length cj (js.map iv) (iv ((p : Int) + far cs (q + 8 + 8 * i + 4))))) (fun iA => match iA with
        | 0 => fun v w => v = .pointer (some ⟨xb, 0, none⟩)
        | 1 => fun v w => v = .pointer (some ⟨xb, 0, none⟩)
        | 2 => fun v w => v = .pointer (some ⟨xb, 0, none⟩)
        | 3 => fun v w => v = .pointer (some ⟨xb, 0, none⟩)
        | 4 => fun v w => v = .pointer (some ⟨xb, 5, none⟩)
        | 5 => fun v w => v = .slice ak ks.length ck
        | 6 => fun v w => v = .pointer (some ⟨r, 0, none⟩)
        | 7 => fun v w => v = .int .i64 ((q + 8 + 8 * i : Nat) : Int)
        | 8 => fun v w => v = .int .i64 (far cs ((q + 8 + 8 * i))) ∧ (¬ (q + 8 + 8 * i) + 4 ≤ cs.length → Rdr k w r mm cs true)
        | 9 => fun v w => ∃ g, v = .slice (some ⟨g, 0, none⟩) 1 1 ∧ Blk w g #[iv (far cs (q + 8 + 8 * i))] 3 ∧ wS.heap.size ≤ g
        | 10 => fun v w => ∃ a2 c2, v = .slice a2 (ks.length + 1) c2 ∧ Sl w 3 1 a2 (ks.length + 1) c2 (ks.map iv ++ [iv (far cs (q + 8 + 8 * i))]) ∧ ((a2 = ak ∧ c2 = ck) ∨ ∃ g, a2 = some ⟨g, 0, none⟩ ∧ wS.heap.size ≤ g ∧ g ≤ wS.heap.size + 1)
        | 11 => fun v w => v = .pointer (some ⟨xb, 0, none⟩)
        | 12 => fun v w => v = .pointer (some ⟨xb, 0, none⟩)
        | 13 => fun v w => v = .pointer (some ⟨xb, 6, none⟩)
        | 14 => fun v w => v = .slice aj js.length cj
        | 15 => fun v w => v = .pointer (some ⟨xb, 0, none⟩)
        | 16 => fun v w => v = .pointer (some ⟨xb, 0, none⟩)
        | 17 => fun v w => v = .pointer (some ⟨xb, 0, none⟩)
        | 18 => fun v w => v = .int .i64 (p : Int)
        | 19 => fun v w => v = .pointer (some ⟨r, 0, none⟩)
        | 20 => fun v w => v = .int .i64 ((q + 8 + 8 * i : Nat) : Int)
        | 21 => fun v w => v = .int .i64 ((q + 8 + 8 * i + 4 : Nat) : Int)
        | 22 => fun v w => v = .int .i64 (far cs ((q + 8 + 8 * i + 4))) ∧ (¬ (q + 8 + 8 * i + 4) + 4 ≤ cs.length → Rdr k w r mm cs true)
        | 23 => fun v w => v = .int .i64 ((p : Int) + far cs (q + 8 + 8 * i + 4))
        | 24 => fun v w => ∃ g, v = .slice (some ⟨g, 0, none⟩) 1 1 ∧ Blk w g #[iv ((p : Int) + far cs (q + 8 + 8 * i + 4))] 3 ∧ wS.heap.size ≤ g
        | 25 => fun v w => ∃ a2 c2, v = .slice a2 (js.length + 1) c2 ∧ Sl w 3 1 a2 (js.length + 1) c2 (js.map iv ++ [iv ((p : Int) + far cs (q + 8 + 8 * i + 4))]) ∧ ((a2 = aj ∧ c2 = cj) ∨ ∃ g, a2 = some ⟨g, 0, none⟩ ∧ wS.heap.size + 2 ≤ g)
        | 26 => fun v w => v = .pointer (some ⟨xb, 0, none⟩)
        | 27 => fun v w => v = .pointer (some ⟨xb, 5, none⟩)
        | 28 => fun v w => True
        | _ => fun v w => True) [] (fun D w => (D 28 = false → Blk w xb #[iv p, iv 1, iv op, iv 0, iv 0, .slice ak ks.length ck, .slice aj js.length cj] 38) ∧ (D 28 = true → ∃ a2 c2, Blk w xb #[iv p, iv 1, iv op, iv 0, iv 0, .slice a2 (ks.length + 1) c2, .slice aj js.length cj] 38 ∧ Sl w 3 1 a2 (ks.length + 1) c2 (ks.map iv ++ [iv (far cs (q + 8 + 8 * i))]) ∧ ((a2 = ak ∧ c2 = ck) ∨ ∃ g, a2 = some ⟨g, 0, none⟩ ∧ wS.heap.size ≤ g ∧ g ≤ wS.heap.size + 1)) ∧ (D 9 = false → w.heap.size = wS.heap.size) ∧ (D 9 = true → wS.heap.size + 1 ≤ w.heap.size) ∧ (D 10 = false → w.heap.size ≤ wS.heap.size + 1) ∧ (D 24 = true → wS.heap.size + 2 ≤ w.heap.size)) rfl rfl rfl rfl rfl (LeF.refl _ _) (fun _ _ _ h1 h2 => h1.tr h2) ?_ (fun _ h => by simp at h) (⟨fun _ => hXs, fun h => (by cases h), fun _ => rfl, fun h => (by cases h), fun _ => Nat.le_succ _, fun h => (by cases h)⟩) ?_ ?_
    · intro iA v w w' h hL
      match iA, h with
      | 0, h =>
        exact h
      | 1, h =>
        exact h
      | 2, h =>
        exact h
      | 3, h =>
        exact h
      | 4, h =>
        exact h
      | 5, h =>
        exact h
      | 6, h =>
        exact h
      | 7, h =>
        exact h
      | 8, h =>
        exact ⟨h.1, fun hb => hL.2 _ hF6 (h.2 hb)⟩
      | 9, h =>
        obtain ⟨g, h1, h2, h3⟩ := h
        exact ⟨g, h1, h2.keep hL.1 (fun hm => by have := hSlt _ hm; omega), h3⟩
      | 10, h =>
        obtain ⟨a2, c2, h1, h2, h3⟩ := h
        refine ⟨a2, c2, h1, ?_, h3⟩
        rcases h3 with ⟨rfl, rfl⟩ | ⟨g, rfl, h5⟩
        · exact hL.2 _ hF2 h2
        · exact h2.keep hL.1 (hnew g (by omega))
      | 11, h =>
        exact h
      | 12, h =>
        exact h
      | 13, h =>
        exact h
      | 14, h =>
        exact h
      | 15, h =>
        exact h
      | 16, h =>
        exact h
      | 17, h =>
        exact h
      | 18, h =>
        exact h
      | 19, h =>
        exact h
      | 20, h =>
        exact h
      | 21, h =>
        exact h
      | 22, h =>
        exact ⟨h.1, fun hb => hL.2 _ hF6 (h.2 hb)⟩
      | 23, h =>
        exact h
      | 24, h =>
        obtain ⟨g, h1, h2, h3⟩ := h
        exact ⟨g, h1, h2.keep hL.1 (fun hm => by have := hSlt _ hm; omega), h3⟩
      | 25, h =>
        obtain ⟨a2, c2, h1, h2, h3⟩ := h
        refine ⟨a2, c2, h1, ?_, h3⟩
        rcases h3 with ⟨rfl, rfl⟩ | ⟨g, rfl, h5⟩
        · exact hL.2 _ hF4 h2
        · exact h2.keep hL.1 (hnew g (by omega))
      | 26, h =>
        exact h
      | 27, h =>
        exact h
      | 28, h =>
        exact h
      | _ + 29, h => trivial
    · intro iA o him hl D eA wA hDi hdp hSh hG hL hA hD
      match iA, him, hl with
      | 0, _, hl =>
        obtain rfl := Option.some.inj hl
        refine o_gen [(1, _)] ⟨hA 1 (free_of rfl), trivial⟩ (fun e2 => ?_)
        refine m_ptr rfl rfl ?_
        refine o_nil ⟨LeF.refl _ _ _, rfl, fun h => by simp at h, hG⟩
      | 1, _, hl =>
        obtain rfl := Option.some.inj hl
        refine o_gen [(1, _)] ⟨hA 1 (free_of rfl), trivial⟩ (fun e2 => ?_)
        refine m_ptr rfl rfl ?_
        refine o_nil ⟨LeF.refl _ _ _, rfl, fun h => by simp at h, hG⟩
      | 2, _, hl =>
        obtain rfl := Option.some.inj hl
        refine o_gen [(1, _)] ⟨hA 1 (free_of rfl), trivial⟩ (fun e2 => ?_)
        refine m_ptr rfl rfl ?_
        refine o_nil ⟨LeF.refl _ _ _, rfl, fun h => by simp at h, hG⟩
      | 3, _, hl =>
        obtain rfl := Option.some.inj hl
        refine o_gen [(136, _)] ⟨hD 2 (by decide) 136 rfl, trivial⟩ (fun e2 => ?_)
        refine o_nilc rfl ?_
        refine o_nil ⟨LeF.refl _ _ _, rfl, fun h => by simp at h, hG⟩
      | 4, _, hl =>
        obtain rfl := Option.some.inj hl
        refine o_gen [(137, _)] ⟨hD 3 (by decide) 137 rfl, trivial⟩ (fun e2 => ?_)
        refine o_fld (off := 5) rfl rfl ?_
        refine o_nil ⟨LeF.refl _ _ _, rfl, fun h => by simp at h, hG⟩
      | 5, _, hl =>
        obtain rfl := Option.some.inj hl
        refine o_gen [(138, _)] ⟨hD 4 (by decide) 138 rfl, trivial⟩ (fun e2 => ?_)
        have hst : D 28 = false := by
         cases hst : D 28 with
         | false => rfl
         | true => exact absurd (hSh 28 _ rfl hst 5 (by decide)) (by rw [hDi]; decide)
        refine o_ld rfl rfl ((hG.1 hst).at rfl) ?_
        refine o_nil ⟨LeF.refl _ _ _, rfl, fun h => by simp at h, hG⟩
      | 6, _, hl =>
        obtain rfl := Option.some.inj hl
        refine o_gen [(0, _)] ⟨hA 0 (free_of rfl), trivial⟩ (fun e2 => ?_)
        refine m_ptr rfl rfl ?_
        refine o_nil ⟨LeF.refl _ _ _, rfl, fun h => by simp at h, hG⟩
      | 7, _, hl =>
        obtain rfl := Option.some.inj hl
        refine o_gen [(3, _)] ⟨hA 3 (free_of rfl), trivial⟩ (fun e2 => ?_)
        refine m_int rfl rfl ?_
        refine o_nil ⟨LeF.refl _ _ _, rfl, fun h => by simp at h, hG⟩
      | 8, _, hl =>
        obtain rfl := Option.some.inj hl
        refine o_gen [(140, _), (141, _)] ⟨hD 6 (by decide) 140 rfl, hD 7 (by decide) 141 rfl, trivial⟩ (fun e2 => ?_)
        have hst : D 28 = false := by
         cases hst : D 28 with
         | false => rfl
         | true => exact absurd (hSh 28 _ rfl hst 8 (by decide)) (by rw [hDi]; decide)
        obtain ⟨f0, hf0, hf1⟩ := hL.2 _ hF5 hRs0
        refine o_call rfl rfl (far_ok k _ r mm ((q + 8 + 8 * i)) cs f0 hf0 (by omega)) (fun v w6 hv => ?_)
        obtain ⟨rfl, hR6, hK6, hZ6⟩ := hv
        have hL6 := le_far (S := (r :: xb :: (blkOf ak ++ blkOf aj))) (nk := ks.length) (ck := ck) (ks := ks.map iv) (kx := iv (far cs (q + 8 + 8 * i))) (nj := js.length) (cj := cj) (js := js.map iv) (jx := iv ((p : Int) + far cs (q + 8 + 8 * i + 4))) (bad := ¬ q + 8 + 8 * i + 4 + 4 ≤ cs.length) hCx (by simp) hK6 hf0 hf1 hR6 (fun hh => by omega)
        refine o_nil ⟨hL6, ⟨rfl, fun hh => ?_⟩, fun h => by simp at h, ⟨fun h => (hG.1 h).keep hK6 (by simpa using fun e => hCx.rx e.symm), fun h => absurd (show D 28 = true from h) (by rw [hst]; decide), fun h => hZ6.trans (hG.2.2.1 h), fun h => hZ6 ▸ hG.2.2.2.1 h, fun h => hZ6 ▸ hG.2.2.2.2.1 h, fun h => hZ6 ▸ hG.2.2.2.2.2 h⟩⟩
        rw [decide_eq_false hh, Bool.not_false, Bool.or_true] at hR6
        exact hR6
      | 9, _, hl =>
        obtain rfl := Option.some.inj hl
        refine o_gen [(142, _)] ⟨(hD 8 (by decide) 142 rfl).1, trivial⟩ (fun e2 => ?_)
        have hst : D 28 = false := by
         cases hst : D 28 with
         | false => rfl
         | true => exact absurd (hSh 28 _ rfl hst 9 (by decide)) (by rw [hDi]; decide)
        refine o_bsl (E := 3) (cs := #[iv (far cs (q + 8 + 8 * i))]) rfl (fun _ => by kernel_rfl) (fun g w6 hB6 hK6 hb6 hZ6 => ?_)
        have hsz := hL.1.size
        have hs0 := hG.2.2.1 hDi
        refine o_nil ⟨le_new hK6, ⟨g, rfl, hB6, by have : wS.drew.heap.size = wS.heap.size := rfl; omega⟩, fun h => by simp at h, ⟨fun h => (hG.1 h).keep hK6 (by simp), fun h => absurd (show D 28 = true from h) (by rw [hst]; decide), fun h => (by cases h), fun _ => (by omega), fun _ => (by omega), fun h => (by have := hG.2.2.2.2.2 h; omega)⟩⟩
      | 10, _, hl =>
        obtain rfl := Option.some.inj hl
        obtain ⟨g, hg, hgB, hgl⟩ := hD 9 (by decide) 143 rfl
        refine o_gen [(139, _), (143, _)] ⟨hD 5 (by decide) 139 rfl, hg, trivial⟩ (fun e2 => ?_)
        have hst : D 28 = false := by
         cases hst : D 28 with
         | false => rfl
         | true => exact absurd (hSh 28 _ rfl hst 10 (by decide)) (by rw [hDi]; decide)
        refine o_app2 Try.underlying36 inf3 rfl (by decide) rfl rfl (hL.2 _ hF1 hKs0) hgB.rd rfl (by simp [Value.oneCell', iv]) (by simp [maxLen]; omega) (by omega) (fun a2 c2 w6 hS6 hv6 => ?_)
        have hsz := hL.1.size
        have hs1 := hG.2.2.2.1 (hdp 9 (by decide))
        have hs2 := hG.2.2.2.2.1 hDi
        have hdr : wS.drew.heap.size = wS.heap.size := rfl
        rcases hv6 with ⟨rfl, rfl, hK6, hZ6⟩ | ⟨g6, rfl, hK6, hb6, hZ6⟩
        · refine o_nil ⟨le_k hCx (by intro b hb; simp [hb]) hK6 hkl hS6, ⟨_, _, rfl, hS6, .inl ⟨rfl, rfl⟩⟩, fun h => by simp at h, ⟨fun h => (hG.1 h).keep hK6 hCx.xk, fun h => absurd (show D 28 = true from h) (by rw [hst]; decide), fun h => absurd (show D 9 = false from h) (by rw [hdp 9 (by decide)]; decide), fun _ => (by omega), fun h => (by cases h), fun h => (by have := hG.2.2.2.2.2 h; omega)⟩⟩
        · refine o_nil ⟨le_new hK6, ⟨_, _, rfl, hS6, .inr ⟨g6, rfl, by omega, by omega⟩⟩, fun h => by simp at h, ⟨fun h => (hG.1 h).keep hK6 (by simp), fun h => absurd (show D 28 = true from h) (by rw [hst]; decide), fun h => absurd (show D 9 = false from h) (by rw [hdp 9 (by decide)]; decide), fun _ => (by omega), fun h => (by cases h), fun h => (by have := hG.2.2.2.2.2 h; omega)⟩⟩
      | 11, _, hl =>
        obtain rfl := Option.some.inj hl
        refine o_gen [(1, _)] ⟨hA 1 (free_of rfl), trivial⟩ (fun e2 => ?_)
        refine m_ptr rfl rfl ?_
        refine o_nil ⟨LeF.refl _ _ _, rfl, fun h => by simp at h, hG⟩
      | 12, _, hl =>
        obtain rfl := Option.some.inj hl
        refine o_gen [(145, _)] ⟨hD 11 (by decide) 145 rfl, trivial⟩ (fun e2 => ?_)
        refine o_nilc rfl ?_
        refine o_nil ⟨LeF.refl _ _ _, rfl, fun h => by simp at h, hG⟩
      | 13, _, hl =>
        obtain rfl := Option.some.inj hl
        refine o_gen [(146, _)] ⟨hD 12 (by decide) 146 rfl, trivial⟩ (fun e2 => ?_)
        refine o_fld (off := 6) rfl rfl ?_
        refine o_nil ⟨LeF.refl _ _ _, rfl, fun h => by simp at h, hG⟩
      | 14, _, hl =>
        obtain rfl := Option.some.inj hl
        refine o_gen [(147, _)] ⟨hD 13 (by decide) 147 rfl, trivial⟩ (fun e2 => ?_)
        have hst : D 28 = false := by
         cases hst : D 28 with
         | false => rfl
         | true => exact absurd (hSh 28 _ rfl hst 14 (by decide)) (by rw [hDi]; decide)
        refine o_ld rfl rfl ((hG.1 hst).at rfl) ?_
        refine o_nil ⟨LeF.refl _ _ _, rfl, fun h => by simp at h, hG⟩
      | 15, _, hl =>
        obtain rfl := Option.some.inj hl
        refine o_gen [(1, _)] ⟨hA 1 (free_of rfl), trivial⟩ (fun e2 => ?_)
        refine m_ptr rfl rfl ?_
        refine o_nil ⟨LeF.refl _ _ _, rfl, fun h => by simp at h, hG⟩
      | 16, _, hl =>
        obtain rfl := Option.some.inj hl
        refine o_gen [(149, _)] ⟨hD 15 (by decide) 149 rfl, trivial⟩ (fun e2 => ?_)
        refine o_nilc rfl ?_
        refine o_nil ⟨LeF.refl _ _ _, rfl, fun h => by simp at h, hG⟩
      | 17, _, hl =>
        obtain rfl := Option.some.inj hl
        refine o_gen [(150, _)] ⟨hD 16 (by decide) 150 rfl, trivial⟩ (fun e2 => ?_)
        refine o_fld0 rfl rfl ?_
        refine o_nil ⟨LeF.refl _ _ _, rfl, fun h => by simp at h, hG⟩
      | 18, _, hl =>
        obtain rfl := Option.some.inj hl
        refine o_gen [(151, _)] ⟨hD 17 (by decide) 151 rfl, trivial⟩ (fun e2 => ?_)
        have hst : D 28 = false := by
         cases hst : D 28 with
         | false => rfl
         | true => exact absurd (hSh 28 _ rfl hst 18 (by decide)) (by rw [hDi]; decide)
        refine o_ld rfl rfl ((hG.1 hst).at rfl) ?_
        refine o_nil ⟨LeF.refl _ _ _, rfl, fun h => by simp at h, hG⟩
      | 19, _, hl =>
        obtain rfl := Option.some.inj hl
        refine o_gen [(0, _)] ⟨hA 0 (free_of rfl), trivial⟩ (fun e2 => ?_)
        refine m_ptr rfl rfl ?_
        refine o_nil ⟨LeF.refl _ _ _, rfl, fun h => by simp at h, hG⟩
      | 20, _, hl =>
        obtain rfl := Option.some.inj hl
        refine o_gen [(3, _)] ⟨hA 3 (free_of rfl), trivial⟩ (fun e2 => ?_)
        refine m_int rfl rfl ?_
        refine o_nil ⟨LeF.refl _ _ _, rfl, fun h => by simp at h, hG⟩
      | 21, _, hl =>
        obtain rfl := Option.some.inj hl
        refine o_gen [(154, _)] ⟨hD 20 (by decide) 154 rfl, trivial⟩ (fun e2 => ?_)
        refine n_add rfl rfl (by omega) ?_
        refine o_nil ⟨LeF.refl _ _ _, rfl, fun h => by simp at h, hG⟩
      | 22, _, hl =>
        obtain rfl := Option.some.inj hl
        refine o_gen [(153, _), (155, _)] ⟨hD 19 (by decide) 153 rfl, hD 21 (by decide) 155 rfl, trivial⟩ (fun e2 => ?_)
        have hst : D 28 = false := by
         cases hst : D 28 with
         | false => rfl
         | true => exact absurd (hSh 28 _ rfl hst 22 (by decide)) (by rw [hDi]; decide)
        obtain ⟨f0, hf0, hf1⟩ := hL.2 _ hF5 hRs0
        refine o_call rfl rfl (far_ok k _ r mm ((q + 8 + 8 * i + 4)) cs f0 hf0 (by omega)) (fun v w6 hv => ?_)
        obtain ⟨rfl, hR6, hK6, hZ6⟩ := hv
        have hL6 := le_far (S := (r :: xb :: (blkOf ak ++ blkOf aj))) (nk := ks.length) (ck := ck) (ks := ks.map iv) (kx := iv (far cs (q + 8 + 8 * i))) (nj := js.length) (cj := cj) (js := js.map iv) (jx := iv ((p : Int) + far cs (q + 8 + 8 * i + 4))) (bad := ¬ q + 8 + 8 * i + 4 + 4 ≤ cs.length) hCx (by simp) hK6 hf0 hf1 hR6 (fun hh => by omega)
        refine o_nil ⟨hL6, ⟨rfl, fun hh => ?_⟩, fun h => by simp at h, ⟨fun h => (hG.1 h).keep hK6 (by simpa using fun e => hCx.rx e.symm), fun h => absurd (show D 28 = true from h) (by rw [hst]; decide), fun h => hZ6.trans (hG.2.2.1 h), fun h => hZ6 ▸ hG.2.2.2.1 h, fun h => hZ6 ▸ hG.2.2.2.2.1 h, fun h => hZ6 ▸ hG.2.2.2.2.2 h⟩⟩
        rw [decide_eq_false hh, Bool.not_false, Bool.or_true] at hR6
        exact hR6
      | 23, _, hl =>
        obtain rfl := Option.some.inj hl
        refine o_gen [(152, _), (156, _)] ⟨hD 18 (by decide) 152 rfl, (hD 22 (by decide) 156 rfl).1, trivial⟩ (fun e2 => ?_)
        refine n_add rfl rfl (by omega) ?_
        refine o_nil ⟨LeF.refl _ _ _, rfl, fun h => by simp at h, hG⟩
      | 24, _, hl =>
        obtain rfl := Option.some.inj hl
        refine o_gen [(157, _)] ⟨hD 23 (by decide) 157 rfl, trivial⟩ (fun e2 => ?_)
        have hst : D 28 = false := by
         cases hst : D 28 with
         | false => rfl
         | true => exact absurd (hSh 25 _ rfl (hSh 28 _ rfl hst 25 (by decide)) 24 (by decide)) (by rw [hDi]; decide)
        refine o_bsl (E := 3) (cs := #[iv ((p : Int) + far cs (q + 8 + 8 * i + 4))]) rfl (fun _ => by kernel_rfl) (fun g w6 hB6 hK6 hb6 hZ6 => ?_)
        have hsz := hL.1.size
        have d1 := hdp 23 (by decide)
        have d2 := hSh 23 _ rfl d1 22 (by decide)
        have d3 := hSh 22 _ rfl d2 10 (by decide)
        have d4 := hSh 10 _ rfl d3 9 (by decide)
        have hs1 := hG.2.2.2.1 d4
        refine o_nil ⟨le_new hK6, ⟨g, rfl, hB6, by have : wS.drew.heap.size = wS.heap.size := rfl; omega⟩, fun h => by simp at h, ⟨fun h => (hG.1 h).keep hK6 (by simp), fun h => absurd (show D 28 = true from h) (by rw [hst]; decide), fun h => absurd (show D 9 = false from h) (by rw [d4]; decide), fun _ => (by omega), fun h => absurd (show D 10 = false from h) (by rw [d3]; decide), fun _ => (by omega)⟩⟩
      | 25, _, hl =>
        obtain rfl := Option.some.inj hl
        obtain ⟨g, hg, hgB, hgl⟩ := hD 24 (by decide) 158 rfl
        refine o_gen [(148, _), (158, _)] ⟨hD 14 (by decide) 148 rfl, hg, trivial⟩ (fun e2 => ?_)
        have hst : D 28 = false := by
         cases hst : D 28 with
         | false => rfl
         | true => exact absurd (hSh 28 _ rfl hst 25 (by decide)) (by rw [hDi]; decide)
        refine o_app2 Try.underlying36 inf3 rfl (by decide) rfl rfl (hL.2 _ hF3 hJs0) hgB.rd rfl (by simp [Value.oneCell', iv]) (by simp [maxLen]; omega) (by omega) (fun a2 c2 w6 hS6 hv6 => ?_)
        have hsz := hL.1.size
        have d1 := hdp 24 (by decide)
        have d1b := hSh 24 _ rfl d1 23 (by decide)
        have d2 := hSh 23 _ rfl d1b 22 (by decide)
        have d3 := hSh 22 _ rfl d2 10 (by decide)
        have d4 := hSh 10 _ rfl d3 9 (by decide)
        have hs1 := hG.2.2.2.1 (d4)
        have hs2 := hG.2.2.2.2.2 (hdp 24 (by decide))
        have hdr : wS.drew.heap.size = wS.heap.size := rfl
        rcases hv6 with ⟨rfl, rfl, hK6, hZ6⟩ | ⟨g6, rfl, hK6, hb6, hZ6⟩
        · refine o_nil ⟨le_j hCx (by intro b hb; simp [hb]) hK6 hjl hS6, ⟨_, _, rfl, hS6, .inl ⟨rfl, rfl⟩⟩, fun h => by simp at h, ⟨fun h => (hG.1 h).keep hK6 hCx.xj, fun h => absurd (show D 28 = true from h) (by rw [hst]; decide), fun h => absurd (show D 9 = false from h) (by rw [d4]; decide), fun _ => (by omega), fun h => absurd (show D 10 = false from h) (by rw [d3]; decide), fun h => (by have := hG.2.2.2.2.2 h; omega)⟩⟩
        · refine o_nil ⟨le_new hK6, ⟨_, _, rfl, hS6, .inr ⟨g6, rfl, by omega⟩⟩, fun h => by simp at h, ⟨fun h => (hG.1 h).keep hK6 (by simp), fun h => absurd (show D 28 = true from h) (by rw [hst]; decide), fun h => absurd (show D 9 = false from h) (by rw [d4]; decide), fun _ => (by omega), fun h => absurd (show D 10 = false from h) (by rw [d3]; decide), fun h => (by have := hG.2.2.2.2.2 h; omega)⟩⟩
      | 26, _, hl =>
        obtain rfl := Option.some.inj hl
        refine o_gen [(134, _)] ⟨hD 0 (by decide) 134 rfl, trivial⟩ (fun e2 => ?_)
        refine o_nilc rfl ?_
        refine o_nil ⟨LeF.refl _ _ _, rfl, fun h => by simp at h, hG⟩
      | 27, _, hl =>
        obtain rfl := Option.some.inj hl
        refine o_gen [(160, _)] ⟨hD 26 (by decide) 160 rfl, trivial⟩ (fun e2 => ?_)
        refine o_fld (off := 5) rfl rfl ?_
        refine o_nil ⟨LeF.refl _ _ _, rfl, fun h => by simp at h, hG⟩
      | 28, _, hl =>
        obtain rfl := Option.some.inj hl
        obtain ⟨a2, c2, ha2, hS2, hv2⟩ := hD 10 (by decide) 144 rfl
        refine o_gen [(144, _), (161, _)] ⟨ha2, hD 27 (by decide) 161 rfl, trivial⟩ (fun e2 => ?_)
        refine o_st (v := .slice a2 (ks.length + 1) c2) rfl rfl rfl rfl (hG.1 hDi) (show 5 < 7 by decide) (fun w6 hB6 hK6 hZ6 => ?_)
        have hS6 : Sl w6 3 1 a2 (ks.length + 1) c2 (ks.map iv ++ [iv (far cs (q + 8 + 8 * i))]) := hS2.keep hK6 (by
         rcases hv2 with ⟨rfl, rfl⟩ | ⟨g, rfl, hg1, hg2⟩
         · exact off_blk fun b hb hm => by simp at hm; subst hm; exact hCx.xk hb
         · intro z hz hm; cases hz; simp at hm; have := hXs.lt; omega)
        refine o_nil ⟨le_x hCx (by simp) hK6, trivial, fun h => by simp at h, ⟨fun h => (by cases h), fun _ => ⟨a2, c2, hB6, hS6, hv2⟩, fun h => hZ6.trans (hG.2.2.1 h), fun h => hZ6 ▸ hG.2.2.2.1 h, fun h => hZ6 ▸ hG.2.2.2.2.1 h, fun h => hZ6 ▸ hG.2.2.2.2.2 h⟩⟩
      | _ + 29, him, _ => exact absurd him (by omega)
    intro D eA wA hAll hG hL hA hV hN hM
    obtain ⟨a2, c2, hX7, hS7, hv7⟩ := hG.2.1 (hAll 28 (by decide) (by decide))
    obtain ⟨b2, d2, hb2, hT7, hu7⟩ := hV 25 (by decide) 159 rfl
    have hRT := hL.2 _ hF5 hRs0
    have hfs : (¬ q + 8 + 8 * i + 4 + 4 ≤ cs.length) → Rdr k wA r mm cs true := fun hb => by
     exact (hV 22 (by decide) 156 rfl).2 (by omega)
    refine o_gen [(0, .pointer (some ⟨r, 0, none⟩)), (1, .pointer (some ⟨xb, 0, none⟩)), (3, .int .i64 ((q + 8 + 8 * i : Nat) : Int)), (9, .int .i64 (far cs (q + 4))), (13, .int .i64 (i : Int)), (159, .slice b2 (js.length + 1) d2), (135, .pointer (some ⟨xb, 0, none⟩))] ⟨hA 0 (free_of rfl), hA 1 (free_of rfl), hA 3 (free_of rfl), hA 9 (free_of rfl), hA 13 (free_of rfl), hb2, hV 1 (by decide) 135 rfl, trivial⟩ (fun e3 => ?_)
    refine o_nilc rfl ?_
    refine o_fld (off := 6) rfl rfl ?_
    refine o_st (v := .slice b2 (js.length + 1) d2) rfl rfl rfl rfl hX7 (show 6 < 7 by decide) (fun w8 hB8 hK8 hZ8 => ?_)
    have hS8 : Sl w8 3 1 a2 (ks.length + 1) c2 (ks.map iv ++ [iv (far cs (q + 8 + 8 * i))]) := hS7.keep hK8 (by
     rcases hv7 with ⟨rfl, rfl⟩ | ⟨g, rfl, hg1, hg2⟩
     · exact off_blk fun b hb hm => by simp at hm; subst hm; exact hCx.xk hb
     · intro z hz hm; cases hz; simp at hm; have := hXs.lt; omega)
    have hT8 : Sl w8 3 1 b2 (js.length + 1) d2 (js.map iv ++ [iv ((p : Int) + far cs (q + 8 + 8 * i + 4))]) := hT7.keep hK8 (by
     rcases hu7 with ⟨rfl, rfl⟩ | ⟨g, rfl, hg1⟩
     · exact off_blk fun b hb hm => by simp at hm; subst hm; exact hCx.xj hb
     · intro z hz hm; cases hz; simp at hm; have := hXs.lt; omega)
    have hR8 := (flag_is hRT (by simp) hfs).keep hK8 (by simpa using ⟨hkx, fun e => hCx.rx e.symm⟩)
    have hK08 : Keep [r, xb] w w8 := by
     refine (hK0i.drew.trans hL.1 (fun b hb hlt => ?_)).trans hK8 (by simp)
     simp only [List.mem_cons, List.mem_append] at hb
     rcases hb with rfl | rfl | hb | hb
     · simp
     · simp
     · cases ak with
       | none => simp [blkOf] at hb
       | some z => simp [blkOf] at hb; subst hb; have := hbk z rfl; omega
     · cases aj with
       | none => simp [blkOf] at hb
       | some z => simp [blkOf] at hb; subst hb; have := hbj z rfl; omega
    have hSw8 : Sw k w.heap.size r mm xb cs p op w8 (lukKeys cs q (i + 1)) (lukJumps cs p q (i + 1)) (false || decide (¬ q + 8 + 8 * i + 4 + 4 ≤ cs.length)) := Sw.of (by rw [lukKeys_succ, hks]) (by rw [lukJumps_succ, hjs]) hB8 hS8 hT8 hO hbk hbj hKs.lt hJs.lt hK0i.size hv7 hu7 hR8
    refine o_nil ?_
    refine k_seq ?_
    refine k_seq ?_
    refine k_cut (σ := Unit) (fun _ => [(0, .pointer (some ⟨r, 0, none⟩)), (1, .pointer (some ⟨xb, 0, none⟩)), (3, .int .i64 ((q + 8 + 8 * i : Nat) : Int)), (9, .int .i64 (far cs (q + 4))), (13, .int .i64 (i : Int)), (183, .bool (decide (0 < i ∧ far cs (q + 8 + 8 * i) ≤ far cs (q + 8 + 8 * (i - 1)))))]) (fun _ w' => Keep [] w8 w') ?_ (fun _ e w9 hJ => ?_)
    ·
      refine k_qk 18 rfl rfl rfl rfl rfl ?_
      refine q_step (fun w1 hC => m_int rfl rfl (o_nil ⟨rfl, hC⟩)) ?_
      refine q_step (fun w1 hC => b_gtr rfl rfl (o_nil ⟨rfl, hC⟩)) ?_
      refine q_step (fun w1 hC => m_bool rfl rfl (o_nil ⟨rfl, hC⟩)) ?_
      refine q_split (t := 166) rfl (fun h => ?_) (fun h => ?_)
      ·
        have h166 : 0 < i := by omega
        have hRd := hS8.rd
        have hget0 : (ks.map iv ++ [iv (far cs (q + 8 + 8 * i))])[i]? = some (iv (far cs (q + 8 + 8 * i))) := by
         rw [List.getElem?_append_right (by omega)]; simp [hkL]
        have hget1 : (ks.map iv ++ [iv (far cs (q + 8 + 8 * i))])[i - 1]? = some (iv (far cs (q + 8 + 8 * (i - 1)))) := by
         rw [List.getElem?_append_left (by omega), hks]
         have hr : (List.range i)[i - 1]? = some (i - 1) := by rw [List.getElem?_range (by omega)]
         simp only [lukKeys, List.map_map, List.getElem?_map, hr]
         rfl
        obtain ⟨b1, o1, hab, _⟩ := hRd _ _ hget0
        subst hab
        refine q_step (fun w1 hC => g_yes rfl rfl (m_ptr rfl rfl (o_nil ⟨rfl, hC⟩))) ?_
        refine q_step (fun w1 hC => g_yes rfl rfl (o_nilc rfl (o_nil ⟨rfl, hC⟩))) ?_
        refine q_step (fun w1 hC => g_yes rfl rfl (o_fld (off := 5) rfl rfl (o_nil ⟨rfl, hC⟩))) ?_
        refine q_step (fun w1 hC => g_yes rfl rfl (o_ld (v := .slice (some ⟨b1, o1, none⟩) (ks.length + 1) c2) rfl rfl (hB8.kat hC rfl) (o_nil ⟨rfl, hC⟩))) ?_
        refine q_step (fun w1 hC => g_yes rfl rfl (m_int rfl rfl (o_nil ⟨rfl, hC⟩))) ?_
        refine q_step (fun w1 hC => g_yes rfl rfl (o_ixs1 Try.underlying36 rfl rfl rfl (by omega) (o_nil ⟨rfl, hC⟩))) ?_
        refine q_step (fun w1 hC => g_yes rfl rfl (o_ld (v := iv (far cs (q + 8 + 8 * i))) rfl rfl (hRd.cellK hC hget0) (o_nil ⟨rfl, hC⟩))) ?_
        refine q_step (fun w1 hC => g_yes rfl rfl (m_ptr rfl rfl (o_nil ⟨rfl, hC⟩))) ?_
        refine q_step (fun w1 hC => g_yes rfl rfl (o_nilc rfl (o_nil ⟨rfl, hC⟩))) ?_
        refine q_step (fun w1 hC => g_yes rfl rfl (o_fld (off := 5) rfl rfl (o_nil ⟨rfl, hC⟩))) ?_
        refine q_step (fun w1 hC => g_yes rfl rfl (o_ld (v := .slice (some ⟨b1, o1, none⟩) (ks.length + 1) c2) rfl rfl (hB8.kat hC rfl) (o_nil ⟨rfl, hC⟩))) ?_
        refine q_step (fun w1 hC => g_yes rfl rfl (m_int rfl rfl (o_nil ⟨rfl, hC⟩))) ?_
        refine q_step (v := .int .i64 ((i - 1 : Nat) : Int)) (fun w1 hC => g_yes rfl rfl (n_sub rfl rfl (by omega) (o_nil ⟨congrArg (fun z => upd _ _ (Value.int .i64 z)) (by omega), hC⟩))) ?_
        refine q_step (fun w1 hC => g_yes rfl rfl (o_ixs1 Try.underlying36 rfl rfl rfl (by omega) (o_nil ⟨rfl, hC⟩))) ?_
        refine q_step (fun w1 hC => g_yes rfl rfl (o_ld (v := iv (far cs (q + 8 + 8 * (i - 1)))) rfl rfl (hRd.cellK hC hget1) (o_nil ⟨rfl, hC⟩))) ?_
        refine q_nil ?_
        intro w' hC
        refine g_yes rfl rfl ?_
        refine b_leq rfl rfl ?_
        refine pick_t rfl rfl ?_
        refine o_nil ?_
        refine k_goal ⟨(), ⟨rfl, rfl, rfl, rfl, rfl, congrArg Value.bool (decide_eq_decide.2 ⟨fun hh => ⟨h166, hh⟩, fun hh => hh.2⟩), trivial⟩, hC⟩
      ·
        refine q_step (v := undef) (fun w1 hC => g_no rfl rfl rfl (o_nil ⟨rfl, hC⟩)) ?_
        refine q_step (v := undef) (fun w1 hC => g_no rfl rfl rfl (o_nil ⟨rfl, hC⟩)) ?_
        refine q_step (v := undef) (fun w1 hC => g_no rfl rfl rfl (o_nil ⟨rfl, hC⟩)) ?_
        refine q_step (v := undef) (fun w1 hC => g_no rfl rfl rfl (o_nil ⟨rfl, hC⟩)) ?_
        refine q_step (v := undef) (fun w1 hC => g_no rfl rfl rfl (o_nil ⟨rfl, hC⟩)) ?_
        refine q_step (v := undef) (fun w1 hC => g_no rfl rfl rfl (o_nil ⟨rfl, hC⟩)) ?_
        refine q_step (v := undef) (fun w1 hC => g_no rfl rfl rfl (o_nil ⟨rfl, hC⟩)) ?_
        refine q_step (v := undef) (fun w1 hC => g_no rfl rfl rfl (o_nil ⟨rfl, hC⟩)) ?_
        refine q_step (v := undef) (fun w1 hC => g_no rfl rfl rfl (o_nil ⟨rfl, hC⟩)) ?_
        refine q_step (v := undef) (fun w1 hC => g_no rfl rfl rfl (o_nil ⟨rfl, hC⟩)) ?_
        refine q_step (v := undef) (fun w1 hC => g_no rfl rfl rfl (o_nil ⟨rfl, hC⟩)) ?_
        refine q_step (v := undef) (fun w1 hC => g_no rfl rfl rfl (o_nil ⟨rfl, hC⟩)) ?_
        refine q_step (v := undef) (fun w1 hC => g_no rfl rfl rfl (o_nil ⟨rfl, hC⟩)) ?_
        refine q_step (v := undef) (fun w1 hC => g_no rfl rfl rfl (o_nil ⟨rfl, hC⟩)) ?_
        refine q_step (v := undef) (fun w1 hC => g_no rfl rfl rfl (o_nil ⟨rfl, hC⟩)) ?_
        refine q_nil ?_
        intro w' hC
        refine g_no rfl rfl rfl ?_
        refine pick_f rfl rfl ?_
        refine o_nil ?_
        refine k_goal ⟨(), ⟨rfl, rfl, rfl, rfl, rfl, congrArg Value.bool (decide_eq_false (fun hh => h (by omega))).symm, trivial⟩, hC⟩
    have hSw9 := hSw8.new hJ
    have hK09 : Keep [r, xb] w w9 := hK08.trans hJ (by simp)
    refine k_cut (σ := Unit) (fun _ => [(0, .pointer (some ⟨r, 0, none⟩)), (1, .pointer (some ⟨xb, 0, none⟩)), (3, .int .i64 ((q + 8 + 8 * i : Nat) : Int)), (9, .int .i64 (far cs (q + 4))), (13, .int .i64 (i : Int))]) (fun _ w' => Sw k w.heap.size r mm xb cs p op w' (lukKeys cs q (i + 1)) (lukJumps cs p q (i + 1)) ((fl || decide (¬ q + 4 ≤ cs.length) || !decide (q + 4 + 4 ≤ cs.length) || decide (far cs (q + 4) < 0 ∨ (cs.length : Int) < far cs (q + 4))) || decide (0 < i + 1 ∧ cs.length < q + 8 + 8 * (i + 1)) || !decide (rise cs (q + 8) (i + 1))) ∧ Keep [r, xb] w w') ?_ (fun _ e w11 hJ11 => ?_)
    ·
      refine k_cond rfl (fun h => ?_) (fun h => ?_)
      ·
        refine k_region ?_
        refine m_ptr rfl rfl ?_
        refine o_nilc rfl ?_
        refine o_fld (off := 2) rfl rfl ?_
        obtain ⟨ar, cr, hBr, hRr, h3, h4, h5⟩ := hSw9.rdr
        refine o_st (v := .bool true) rfl rfl rfl rfl hBr (show 2 < 3 by decide) (fun w10 hB10 hK10 hZ10 => ?_)
        refine o_nil ?_
        refine k_goal ⟨(), ⟨rfl, rfl, rfl, rfl, rfl, trivial⟩, ?_, hK09.trans hK10 (by simp)⟩
        rw [decide_eq_false (show ¬ rise cs (q + 8) (i + 1) from fun hr => by have := ((rise_succ cs (q + 8) i).1 hr).2 h.1; omega), Bool.not_false, Bool.or_true]
        exact hSw9.flag hK10 (Rdr.set hRr h3 h4 h5 hK10 hB10)
      refine k_skip ?_
      refine k_goal ⟨(), ⟨rfl, rfl, rfl, rfl, rfl, trivial⟩, ?_, hK09⟩
      rw [hFF, decide_eq_true (show rise cs (q + 8) (i + 1) from (rise_succ cs (q + 8) i).2 ⟨hrise, fun h0 => Int.not_le.1 fun hh => h ⟨h0, hh⟩⟩), Bool.not_true, Bool.or_false, show decide (0 < i + 1 ∧ cs.length < q + 8 + 8 * (i + 1)) = decide (¬ q + 8 + 8 * i + 4 + 4 ≤ cs.length) from decide_eq_decide.2 (by omega)]
      exact hSw9
    refine k_region ?_
    refine m_int rfl rfl ?_
    refine n_add rfl rfl (by omega) ?_
    refine m_int rfl rfl ?_
    refine o_nil ?_
    refine k_blk ?_
    refine k_region ?_
    refine m_int rfl rfl ?_
    refine n_add rfl rfl (by omega) ?_
    refine m_int rfl rfl ?_
    refine o_nil ?_
    refine k_goal ⟨i + 1, ⟨rfl, rfl, ?_, rfl, rfl, trivial⟩, ⟨by omega, fun _ => by omega, hJ11.1, hJ11.2⟩, by omega⟩
    exact congrArg (Value.int .i64) (by omega)
  ·
    have hin := h
    refine g_no rfl rfl rfl ?_
    refine g_no rfl rfl rfl ?_
    refine g_no rfl rfl rfl ?_
    refine g_no rfl rfl rfl ?_
    refine g_no rfl rfl rfl ?_
    refine pick_f rfl rfl ?_
    refine o_nil ?_
    refine k_condf rfl ?_
    refine k_exit rfl ?_
    refine k_seq ?_
    refine k_region ?_
    refine m_int rfl rfl ?_
    refine m_int rfl rfl ?_
    refine o_nil ?_
    refine k_ret (ret_tmps (ts := [8]) (v := .int _ _) rfl rfl ?_)
    refine ⟨q + 8 + 8 * i, _, _, fi, rfl, by omega, hSwi, hK0i, fun hh => luk_true hi (by rw [← hfi]; exact hh), fun hh => ?_⟩
    obtain ⟨h1, h2, h3⟩ := luk_false hi hin (by rw [← hfi]; exact hh)
    subst h3
    exact ⟨h1, h2, rfl⟩
end Go.Proofs.Ytmdkinedbmjieaa
