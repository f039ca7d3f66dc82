/- Ops: what lasts while a switch is read. No condition beyond what each contract names. -/
import Derived.Test.YtmdkinedbmjieaaOb
import Derived.Test.YtmdkinedbmjieaaEt
namespace Go.Proofs.Ytmdkinedbmjieaa
open Go.RowKit E
set_option linter.unusedVariables false
set_option linter.unusedSimpArgs false
set_option maxRecDepth 100000
attribute [local irreducible] ow qw kw kq cw opW Ret
theorem inf3 : infB Try.prog 3 1 8 (.int .i64 0) := ⟨_, rfl, rfl, rfl, rfl⟩
theorem Rdr.inj {k : Nat} {w : World} {r m : Nat} {cs : Bs} {f f' : Bool} (h : Rdr k w r m cs f) (h' : Rdr k w r m cs f') : f = f' := by
  obtain ⟨a, c, h1, _⟩ := h
  obtain ⟨a', c', h1', _⟩ := h'
  have := h1.inj h1'
  simp at this
  exact this.2
theorem off_blk {S : List Nat} {a : Option Addr} (h : ∀ b ∈ blkOf a, b ∉ S) : Off S a := by
  intro p hp
  exact h p.block (by rw [hp]; simp [blkOf])
/-- where things lie while a switch is read -/
structure Cx (k r xb : Nat) (ak aj : Option Addr) : Prop where
  kr : k ≤ r
  kx : k ≤ xb
  rx : r ≠ xb
  rk : r ∉ blkOf ak
  rj : r ∉ blkOf aj
  xk : xb ∉ blkOf ak
  xj : xb ∉ blkOf aj
  kj : Off (blkOf aj) ak
  jk : Off (blkOf ak) aj
  lk : ∀ b ∈ blkOf ak, k ≤ b
  lj : ∀ b ∈ blkOf aj, k ≤ b
/-- the facts that last -/
def fFlag (k r mm : Nat) (cs : Bs) (fl : Bool) (bad : Prop) (w : World) : Prop := ∃ f, Rdr k w r mm cs f ∧ (f = true → fl = true ∨ bad)
def fcts (k r mm : Nat) (cs : Bs) (fl : Bool) (bad : Prop) (ak : Option Addr) (nk ck : Nat) (ks : List Value) (kx : Value) (aj : Option Addr) (nj cj : Nat) (js : List Value) (jx : Value) : List (World → Prop) :=
  [fun w => Sl w 3 1 ak nk ck ks, fun w => Sl w 3 1 ak (nk + 1) ck (ks ++ [kx]), fun w => Sl w 3 1 aj nj cj js, fun w => Sl w 3 1 aj (nj + 1) cj (js ++ [jx]), fFlag k r mm cs fl bad, fun w => Rdr k w r mm cs true]
section
variable {k r xb mm : Nat} {cs : Bs} {fl : Bool} {bad : Prop} {ak aj : Option Addr} {nk ck nj cj : Nat} {ks js : List Value} {kx jx : Value} {w w' : World}
theorem fFlag.keep {S : List Nat} (h : fFlag k r mm cs fl bad w) (hk : Keep S w w') (hS : ∀ b ∈ S, k ≤ b ∧ b ≠ r) : fFlag k r mm cs fl bad w' := by
  obtain ⟨f, h1, h2⟩ := h
  exact ⟨f, h1.keep hk hS, h2⟩
/-- what is turned lies aside -/
theorem le_aside {S T : List Nat} (hk : Keep T w w') (hT : ∀ b ∈ T, b ∈ S) (h1 : ∀ b ∈ T, k ≤ b ∧ b ≠ r) (h2 : ∀ b ∈ T, b ∉ blkOf ak ∧ b ∉ blkOf aj) : LeF S (fcts k r mm cs fl bad ak nk ck ks kx aj nj cj js jx) w w' := by
  have hK : Off T ak := off_blk fun b hb hm => (h2 b hm).1 hb
  have hJ : Off T aj := off_blk fun b hb hm => (h2 b hm).2 hb
  refine ⟨hk.mono hT, fun F hF => ?_⟩
  simp only [fcts, List.mem_cons, List.not_mem_nil, or_false] at hF
  rcases hF with rfl | rfl | rfl | rfl | rfl | rfl
  · exact fun h => h.keep hk hK
  · exact fun h => h.keep hk hK
  · exact fun h => h.keep hk hJ
  · exact fun h => h.keep hk hJ
  · exact fun h => h.keep hk h1
  · exact fun h => Rdr.keep h hk h1
theorem le_new {S : List Nat} (hk : Keep [] w w') : LeF S (fcts k r mm cs fl bad ak nk ck ks kx aj nj cj js jx) w w' := le_aside hk (by simp) (by simp) (by simp)
theorem le_x {S : List Nat} (hc : Cx k r xb ak aj) (hS : xb ∈ S) (hk : Keep [xb] w w') : LeF S (fcts k r mm cs fl bad ak nk ck ks kx aj nj cj js jx) w w' :=
  le_aside hk (by simpa using hS) (by simpa using ⟨hc.kx, fun e => hc.rx e.symm⟩) (by simpa using ⟨hc.xk, hc.xj⟩)
theorem le_k {S : List Nat} (hc : Cx k r xb ak aj) (hS : ∀ b ∈ blkOf ak, b ∈ S) (hk : Keep (blkOf ak) w w') (hl : ks.length = nk) (hs : Sl w' 3 1 ak (nk + 1) ck (ks ++ [kx])) : LeF S (fcts k r mm cs fl bad ak nk ck ks kx aj nj cj js jx) w w' := by
  refine ⟨hk.mono hS, fun F hF => ?_⟩
  have hR : ∀ b ∈ blkOf ak, k ≤ b ∧ b ≠ r := fun b hb => ⟨hc.lk b hb, fun e => hc.rk (e ▸ hb)⟩
  simp only [fcts, List.mem_cons, List.not_mem_nil, or_false] at hF
  rcases hF with rfl | rfl | rfl | rfl | rfl | rfl
  · exact fun _ => hs.front (by omega) (by omega)
  · exact fun _ => hs
  · exact fun h => h.keep hk hc.jk
  · exact fun h => h.keep hk hc.jk
  · exact fun h => h.keep hk hR
  · exact fun h => Rdr.keep h hk hR
theorem le_j {S : List Nat} (hc : Cx k r xb ak aj) (hS : ∀ b ∈ blkOf aj, b ∈ S) (hk : Keep (blkOf aj) w w') (hl : js.length = nj) (hs : Sl w' 3 1 aj (nj + 1) cj (js ++ [jx])) : LeF S (fcts k r mm cs fl bad ak nk ck ks kx aj nj cj js jx) w w' := by
  refine ⟨hk.mono hS, fun F hF => ?_⟩
  have hR : ∀ b ∈ blkOf aj, k ≤ b ∧ b ≠ r := fun b hb => ⟨hc.lj b hb, fun e => hc.rj (e ▸ hb)⟩
  simp only [fcts, List.mem_cons, List.not_mem_nil, or_false] at hF
  rcases hF with rfl | rfl | rfl | rfl | rfl | rfl
  · exact fun h => h.keep hk hc.kj
  · exact fun h => h.keep hk hc.kj
  · exact fun _ => hs.front (by omega) (by omega)
  · exact fun _ => hs
  · exact fun h => h.keep hk hR
  · exact fun h => Rdr.keep h hk hR
theorem le_far {S : List Nat} {f : Bool} {ok : Prop} [Decidable ok] (hc : Cx k r xb ak aj) (hS : r ∈ S) (hk : Keep [r] w w') (h0 : Rdr k w r mm cs f) (hf : f = true → fl = true ∨ bad) (h1 : Rdr k w' r mm cs (f || !decide ok)) (hb : ¬ ok → bad) : LeF S (fcts k r mm cs fl bad ak nk ck ks kx aj nj cj js jx) w w' := by
  refine ⟨hk.mono (by simpa using hS), fun F hF => ?_⟩
  have hK : Off [r] ak := off_blk fun b hb hm => by simp at hm; subst hm; exact hc.rk hb
  have hJ : Off [r] aj := off_blk fun b hb hm => by simp at hm; subst hm; exact hc.rj hb
  simp only [fcts, List.mem_cons, List.not_mem_nil, or_false] at hF
  rcases hF with rfl | rfl | rfl | rfl | rfl | rfl
  · exact fun h => h.keep hk hK
  · exact fun h => h.keep hk hK
  · exact fun h => h.keep hk hJ
  · exact fun h => h.keep hk hJ
  · refine fun _ => ⟨_, h1, fun h => ?_⟩
    cases f with
    | true => exact hf rfl
    | false => exact .inr (hb (by simpa using h))
  · intro h
    have := h0.inj h
    subst this
    simpa using h1
end
end Go.Proofs.Ytmdkinedbmjieaa
