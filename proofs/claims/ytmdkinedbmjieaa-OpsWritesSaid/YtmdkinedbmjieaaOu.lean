/- Ops: two rows that grow in one step, in any order; the instruction that the reference makes. No condition beyond what each lemma names. -/
import Derived.Test.YtmdkinedbmjieaaOt
namespace Go.Proofs.Ytmdkinedbmjieaa
open Go.RowKit E
set_option linter.unusedVariables false
set_option linter.unusedSimpArgs false
set_option maxRecDepth 100000
attribute [local irreducible] ow qw kw kq cw opW Ret
/-- two appends, each done or not -/
structure Two (H0 : Nat) (ak : Option Addr) (ck : Nat) (ks : List Int) (kx : Int) (aj : Option Addr) (cj : Nat) (js : List Int) (jx : Int) (dk dj : Bool) (vk vj : Value) (w : World) : Prop where
  k0 : dk = false → Sl w 3 1 ak ks.length ck (ks.map iv)
  k1 : dk = true → ∃ a2 c2, vk = .slice a2 (ks.length + 1) c2 ∧ Sl w 3 1 a2 (ks.length + 1) c2 (ks.map iv ++ [iv kx]) ∧ ∀ z, a2 = some z → z.block ∈ blkOf ak ∨ H0 ≤ z.block
  j0 : dj = false → Sl w 3 1 aj js.length cj (js.map iv)
  j1 : dj = true → ∃ a2 c2, vj = .slice a2 (js.length + 1) c2 ∧ Sl w 3 1 a2 (js.length + 1) c2 (js.map iv ++ [iv jx]) ∧ ∀ z, a2 = some z → z.block ∈ blkOf aj ∨ H0 ≤ z.block
  off : dk = true → dj = true → ∀ a2 n2 c2 b2 m2 e2, vk = .slice a2 n2 c2 → vj = .slice b2 m2 e2 → Off (blkOf b2) a2
section
variable {H0 : Nat} {ak : Option Addr} {ck : Nat} {ks : List Int} {kx : Int} {aj : Option Addr} {cj : Nat} {js : List Int} {jx : Int} {dk dj : Bool} {vk vj : Value} {w w' : World}
theorem Two.init (hk : Sl w 3 1 ak ks.length ck (ks.map iv)) (hj : Sl w 3 1 aj js.length cj (js.map iv)) : Two H0 ak ck ks kx aj cj js jx false false vk vj w :=
  ⟨fun _ => hk, (fun h => by cases h), fun _ => hj, (fun h => by cases h), (fun h => by cases h)⟩
theorem Two.new (h : Two H0 ak ck ks kx aj cj js jx dk dj vk vj w) (hK : Keep [] w w') : Two H0 ak ck ks kx aj cj js jx dk dj vk vj w' := by
  refine ⟨fun e => (h.k0 e).new hK, fun e => ?_, fun e => (h.j0 e).new hK, fun e => ?_, h.off⟩
  · obtain ⟨a2, c2, h1, h2, h3⟩ := h.k1 e; exact ⟨a2, c2, h1, h2.new hK, h3⟩
  · obtain ⟨a2, c2, h1, h2, h3⟩ := h.j1 e; exact ⟨a2, c2, h1, h2.new hK, h3⟩
theorem blkOf_some {a : Option Addr} {b : Nat} : b ∈ blkOf a ↔ ∃ z, a = some z ∧ z.block = b := by
  cases a with
  | none => simp [blkOf]
  | some z => simp [blkOf, eq_comm]
theorem Two.appK (hoff : Off (blkOf aj) ak) (hlk : ∀ z, ak = some z → z.block < H0) (hlj : ∀ z, aj = some z → z.block < H0) (hH : H0 ≤ w.heap.size) (h : Two H0 ak ck ks kx aj cj js jx false dj vk vj w) {a2 : Option Addr} {c2 : Nat}
    (hS : Sl w' 3 1 a2 (ks.length + 1) c2 (ks.map iv ++ [iv kx]))
    (hv : (a2 = ak ∧ c2 = ck ∧ Keep (blkOf ak) w w' ∧ w'.heap.size = w.heap.size) ∨ (∃ g, a2 = some ⟨g, 0, none⟩ ∧ Keep [] w w' ∧ w.heap.size = g ∧ w'.heap.size = g + 1)) :
    Two H0 ak ck ks kx aj cj js jx true dj (.slice a2 (ks.length + 1) c2) vj w' ∧ Keep (blkOf ak ++ blkOf aj) w w' := by
  rcases hv with ⟨rfl, rfl, hK, hZ⟩ | ⟨g, rfl, hK, hg, hZ⟩
  · refine ⟨⟨(fun e => by cases e), fun _ => ⟨a2, c2, rfl, hS, fun z hz => .inl (blkOf_some.2 ⟨z, hz, rfl⟩)⟩, fun e => ?_, fun e => ?_, fun _ e a3 n3 c3 b3 m3 e3 h1 h2 => ?_⟩, hK.mono (fun b hb => List.mem_append_left _ hb)⟩
    · refine (h.j0 e).keep hK fun z hz hm => ?_
      obtain ⟨y, hy, hye⟩ := blkOf_some.1 hm
      exact hoff y hy (blkOf_some.2 ⟨z, hz, hye.symm⟩)
    · obtain ⟨b2, d2, h1, h2, h3⟩ := h.j1 e
      refine ⟨b2, d2, h1, h2.keep hK fun z hz hm => ?_, h3⟩
      obtain ⟨y, hy, hye⟩ := blkOf_some.1 hm
      rcases h3 z hz with hb | hb
      · exact hoff y hy (by rw [hye]; exact hb)
      · have := hlk y hy; omega
    · cases h1
      obtain ⟨b2, d2, h4, h5, h6⟩ := h.j1 e
      rw [h2] at h4
      cases h4
      intro z hz hm
      obtain ⟨y, hy, hye⟩ := blkOf_some.1 hm
      rcases h6 y hy with hb | hb
      · exact hoff z hz (by rw [← hye]; exact hb)
      · have := hlk z hz; omega
  · refine ⟨⟨(fun e => by cases e), fun _ => ⟨_, c2, rfl, hS, fun z hz => .inr (by cases hz; simp; omega)⟩, fun e => (h.j0 e).new hK, fun e => ?_, fun _ e a3 n3 c3 b3 m3 e3 h1 h2 => ?_⟩, hK.also⟩
    · obtain ⟨b2, d2, h1, h2, h3⟩ := h.j1 e; exact ⟨b2, d2, h1, h2.new hK, h3⟩
    · cases h1
      obtain ⟨b2, d2, h4, h5, h6⟩ := h.j1 e
      rw [h2] at h4
      cases h4
      intro z hz hm
      cases hz
      obtain ⟨y, hy, hye⟩ := blkOf_some.1 hm
      have := h5.lt y hy
      simp at hye
      omega
theorem Two.appJ (hoff : Off (blkOf aj) ak) (hlk : ∀ z, ak = some z → z.block < H0) (hlj : ∀ z, aj = some z → z.block < H0) (hH : H0 ≤ w.heap.size) (h : Two H0 ak ck ks kx aj cj js jx dk false vk vj w) {a2 : Option Addr} {c2 : Nat}
    (hS : Sl w' 3 1 a2 (js.length + 1) c2 (js.map iv ++ [iv jx]))
    (hv : (a2 = aj ∧ c2 = cj ∧ Keep (blkOf aj) w w' ∧ w'.heap.size = w.heap.size) ∨ (∃ g, a2 = some ⟨g, 0, none⟩ ∧ Keep [] w w' ∧ w.heap.size = g ∧ w'.heap.size = g + 1)) :
    Two H0 ak ck ks kx aj cj js jx dk true vk (.slice a2 (js.length + 1) c2) w' ∧ Keep (blkOf ak ++ blkOf aj) w w' := by
  rcases hv with ⟨rfl, rfl, hK, hZ⟩ | ⟨g, rfl, hK, hg, hZ⟩
  · refine ⟨⟨fun e => ?_, fun e => ?_, (fun e => by cases e), fun _ => ⟨a2, c2, rfl, hS, fun z hz => .inl (blkOf_some.2 ⟨z, hz, rfl⟩)⟩, fun e _ a3 n3 c3 b3 m3 e3 h1 h2 => ?_⟩, hK.mono (fun b hb => List.mem_append_right _ hb)⟩
    · exact (h.k0 e).keep hK hoff
    · obtain ⟨b2, d2, h1, h2, h3⟩ := h.k1 e
      refine ⟨b2, d2, h1, h2.keep hK fun z hz hm => ?_, h3⟩
      obtain ⟨y, hy, hye⟩ := blkOf_some.1 hm
      rcases h3 z hz with hb | hb
      · obtain ⟨x, hx, hxe⟩ := blkOf_some.1 hb
        exact hoff x hx (by rw [hxe]; exact hm)
      · have := hlj y hy; omega
    · cases h2
      obtain ⟨b2, d2, h4, h5, h6⟩ := h.k1 e
      rw [h1] at h4
      cases h4
      intro z hz hm
      obtain ⟨y, hy, hye⟩ := blkOf_some.1 hm
      rcases h6 z hz with hb | hb
      · obtain ⟨x, hx, hxe⟩ := blkOf_some.1 hb
        exact hoff x hx (by rw [hxe]; exact hm)
      · have := hlj y hy; omega
  · refine ⟨⟨fun e => (h.k0 e).new hK, fun e => ?_, (fun e => by cases e), fun _ => ⟨_, c2, rfl, hS, fun z hz => .inr (by cases hz; simp; omega)⟩, fun e _ a3 n3 c3 b3 m3 e3 h1 h2 => ?_⟩, hK.also⟩
    · obtain ⟨b2, d2, h1, h2, h3⟩ := h.k1 e; exact ⟨b2, d2, h1, h2.new hK, h3⟩
    · cases h2
      obtain ⟨b2, d2, h4, h5, h6⟩ := h.k1 e
      rw [h1] at h4
      cases h4
      intro z hz hm
      have := h5.lt z hz
      simp [blkOf] at hm
      omega
end
/-- the rows of an instruction that is being made, and the place of the result -/
structure StA (b4 b6 : Nat) (w0 w : World) (ak : Option Addr) (ck : Nat) (ks : List Int) (aj : Option Addr) (cj : Nat) (js : List Int) : Prop where
  sk : Sl w 3 1 ak ks.length ck (ks.map iv)
  sj : Sl w 3 1 aj js.length cj (js.map iv)
  off : Off (blkOf aj) ak
  fk : ∀ z, ak = some z → w0.heap.size ≤ z.block
  fj : ∀ z, aj = some z → w0.heap.size ≤ z.block
  z4 : ∃ z, Blk w b4 z 38 ∧ z.size = 7
  ne : b4 ≠ b6
  h4 : w0.heap.size ≤ b4
  h6 : w0.heap.size ≤ b6
  keep : Keep [] w0 w
section
variable {b4 b6 : Nat} {w0 w w' : World} {ak : Option Addr} {ck : Nat} {ks : List Int} {aj : Option Addr} {cj : Nat} {js : List Int}
theorem StA.new (h : StA b4 b6 w0 w ak ck ks aj cj js) (hK : Keep [] w w') : StA b4 b6 w0 w' ak ck ks aj cj js := by
  obtain ⟨z, h1, h2⟩ := h.z4
  exact ⟨h.sk.new hK, h.sj.new hK, h.off, h.fk, h.fj, ⟨z, h1.keep hK (by simp), h2⟩, h.ne, h.h4, h.h6, h.keep.tr hK⟩
theorem StA.at6 {cs : Array Value} (h : StA b4 b6 w0 w ak ck ks aj cj js) (hB : Blk w b6 cs 38) (hK : Keep [b6] w w') : StA b4 b6 w0 w' ak ck ks aj cj js := by
  obtain ⟨z, h1, h2⟩ := h.z4
  exact ⟨h.sk.keep hK (h.sk.off hB (by decide)), h.sj.keep hK (h.sj.off hB (by decide)), h.off, h.fk, h.fj, ⟨z, h1.keep hK (by simpa using h.ne), h2⟩, h.ne, h.h4, h.h6, h.keep.trans hK (by simp; have := h.h6; omega)⟩
theorem StA.ins (h : StA b4 b6 w0 w ak ck ks aj cj js) (x : Ins) (hk : x.keys = ks) (hj : x.jumps = js) : insC (GS w0.heap.size w) [iv x.p, iv x.len, iv x.op, iv x.a, iv x.b, .slice ak ks.length ck, .slice aj js.length cj] x := by
  subst hk hj
  exact ⟨_, _, rfl, ⟨ak, ck, rfl, h.sk, h.fk⟩, ⟨aj, cj, rfl, h.sj, h.fj⟩⟩
theorem StA.two (h : StA b4 b6 w0 w ak ck ks aj cj js) {kx jx : Int} {a2 b2 : Option Addr} {c2 d2 : Nat} {cs : Array Value} (hK : Keep (blkOf ak ++ blkOf aj) w w')
    (hk : Sl w' 3 1 a2 (ks.length + 1) c2 (ks.map iv ++ [iv kx])) (hkf : ∀ z, a2 = some z → z.block ∈ blkOf ak ∨ w.heap.size ≤ z.block) (hj : Sl w' 3 1 b2 (js.length + 1) d2 (js.map iv ++ [iv jx])) (hjf : ∀ z, b2 = some z → z.block ∈ blkOf aj ∨ w.heap.size ≤ z.block) (ho : Off (blkOf b2) a2) :
    StA b4 b6 w0 w' a2 c2 (ks ++ [kx]) b2 d2 (js ++ [jx]) := by
  obtain ⟨z, h1, h2⟩ := h.z4
  have hsz := h.keep.size
  refine ⟨?_, ?_, ho, fun z hz => ?_, fun z hz => ?_, ⟨z, h1.keep hK ?_, h2⟩, h.ne, h.h4, h.h6, h.keep.trans hK fun b hb hl => ?_⟩
  · rw [List.length_append, List.map_append]; exact hk
  · rw [List.length_append, List.map_append]; exact hj
  · rcases hkf z hz with hb | hb
    · obtain ⟨y, hy, hye⟩ := blkOf_some.1 hb; have := h.fk y hy; omega
    · omega
  · rcases hjf z hz with hb | hb
    · obtain ⟨y, hy, hye⟩ := blkOf_some.1 hb; have := h.fj y hy; omega
    · omega
  · intro hm
    rcases List.mem_append.1 hm with hm | hm
    · exact h.sk.notin h1 (by decide) hm
    · exact h.sj.notin h1 (by decide) hm
  · exfalso
    rcases List.mem_append.1 hb with hm | hm
    · obtain ⟨y, hy, hye⟩ := blkOf_some.1 hm; have := h.fk y hy; omega
    · obtain ⟨y, hy, hye⟩ := blkOf_some.1 hm; have := h.fj y hy; omega
end
/-- what the reference's one answers -/
def ROne (w : World) (cs : Bs) (p : Nat) (v : Value) (w' : World) : Prop := ∃ xs ok, v = .tuple #[.agg xs.toArray, .bool ok] ∧ xs.length = 7 ∧ (∀ u ∈ xs, u.oneCell' = true) ∧ (ok = true → ∃ x, rdOne cs p = some x ∧ insC (GS w.heap.size w') xs x) ∧ (ok = false → rdOne cs p = none) ∧ Keep [] w w'
theorem StA.ret {b4 b6 : Nat} {w0 w w' : World} {ak : Option Addr} {ck : Nat} {ks : List Int} {aj : Option Addr} {cj : Nat} {js : List Int} {cs : Bs} {p : Nat} {x : Ins} {z : Array Value} {ok : Bool} (h : StA b4 b6 w0 w ak ck ks aj cj js) (hk : x.keys = ks) (hj : x.jumps = js) (hz : Blk w b4 z 38) (hK : Keep [b4] w w') (hok : ok = true → rdOne cs p = some x) (hno : ok = false → rdOne cs p = none) :
    ROne w0 cs p (.tuple #[.agg [iv x.p, iv x.len, iv x.op, iv x.a, iv x.b, .slice ak ks.length ck, .slice aj js.length cj].toArray, .bool ok]) w' := by
  have hi := h.ins x hk hj
  refine ⟨_, ok, rfl, rfl, hi.one, fun e => ⟨x, hok e, hi.mono fun v l hv => hv.keep hK fun b hb => ?_⟩, hno, h.keep.trans hK (by simp; have := h.h4; omega)⟩
  simp at hb
  subst hb
  exact .inr fun cs hB => absurd (hB.ty hz) (by decide)
end Go.Proofs.Ytmdkinedbmjieaa
