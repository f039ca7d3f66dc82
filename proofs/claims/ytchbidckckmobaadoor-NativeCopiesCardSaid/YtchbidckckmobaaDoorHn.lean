/- The rule for copy. No condition beyond what each lemma names. -/
import Derived.Test.YtchbidckckmobaaDoorHm
import Derived.Laws.CopyRow
import Derived.Laws.IdiomCopy
namespace Go.Proofs.YtchbidckckmobaaDoor
open Go.RowKit E
set_option linter.unusedVariables false
set_option linter.unusedSimpArgs false
set_option maxRecDepth 100000
attribute [local irreducible] ow qw kw kq cw opW Ret
namespace E
section
variable {P : Program} {n : Nat} {e : Env} {w : World} {l0 l : List Oper} {K : Env → World → Prop} {d : Nat} {T : TypeId} {pos : String} {af : Array Edge} {x y : Operand} {TX TY : TypeId}
theorem o_copy {E : TypeId} {a0 b : Option Addr} {m c dc lo sc sl : Nat} {xs news : List Value} (hu : P.underlying TX = some (.slice E)) (hs : (P.info? E).map (·.size) = some 1)
    (hx : ev n e x = .slice (cutAt a0 lo c 1) (m - lo) dc) (hy : ev n e y = .slice b sl sc) (hsl : sl = news.length) (hS : Sl w E 1 a0 m c xs) (hR : Rd w b news) (hlo : lo + news.length ≤ m) (h1 : ∀ v ∈ news, v.oneCell' = true)
    (h : ∀ w', Sl w' E 1 a0 m c (xs.take lo ++ news ++ xs.drop (lo + news.length)) → Keep (blkOf a0) w w' → ow P n l0 K l (upd e d (.int .i64 (news.length : Int))) w') :
    ow P n l0 K (⟨some d, .call ⟨.builtin .copy, #[x, y], #[TX, TY]⟩, T, pos, af, none⟩ :: l) e w := by
  subst hsl
  by_cases hz : news = []
  · subst hz
    have hr := run_copy_none (P := P) w TX TY T E (cutAt a0 lo c 1) b (m - lo) dc 0 sc hu hs (by simp)
    refine o_run (v := .int .i64 ((0 : Nat) : Int)) (w' := w) ?_ (h w (by simpa using hS) (Keep.refl _ _))
    have hy' : ev n e y = .slice b 0 sc := hy
    simp [execOp, resolve, invoke, builtin, hx, hy', hr, goInt]
  · have hpos : 0 < news.length := by cases news with | nil => exact absurd rfl hz | cons => simp
    obtain ⟨hlen, hS2⟩ := hS
    rcases hS2 with ⟨_, rfl, _⟩ | ⟨g, cur, rfl, hB, hmc, hcm, hcs, hcx⟩
    · omega
    obtain ⟨b', o', rfl, _⟩ := hR 0 _ (List.getElem?_eq_getElem hpos)
    have hcut : cutAt (some ⟨g, 0, none⟩) lo c 1 = some ⟨g, lo, none⟩ := by
      unfold cutAt
      rw [if_neg (by omega)]
      simp [Addr.add]
      omega
    have hr := run_copy_row (P := P) w TX TY T E g lo (m - lo) dc ⟨b', o', none⟩ news.length sc cur E news hu hs hB (Nat.min_eq_left (by omega)).symm (fun j v hv => by
      obtain ⟨b2, o2, he2, hc2⟩ := hR j v hv
      cases he2
      have hadd : (⟨b', o', none⟩ : Addr).add j = ⟨b', o' + j, none⟩ := by unfold Addr.add; split <;> simp_all
      rw [hadd]; exact hc2) (by omega) h1
    refine o_run (v := .int .i64 (news.length : Int)) (w' := _) (by rw [hcut] at hx; simp [execOp, resolve, invoke, builtin, hx, hy, hr, goInt]; rfl) (h _ ⟨?_, .inr ⟨g, _, rfl, setRow_heap w g cur _ E _ hB, hmc, hcm, ?_, ?_⟩⟩ ⟨rfl, rfl, rfl, by simp [World.setRow], fun k _ hk => setRow_other w g k _ (by simpa [blkOf] using hk)⟩)
    · simp [hlen]; omega
    · simp; omega
    · subst hcx
      have hcl : cur.toList.length = c := by simp; omega
      simp only [Nat.mul_one, List.toList_toArray]
      refine List.ext_getElem? fun i => ?_
      simp only [List.getElem?_take, List.getElem?_append, List.getElem?_drop, List.length_append, List.length_take, hcl]
      repeat' split
      all_goals first | rfl | omega | (congr 1; omega) | skip
end
end E
end Go.Proofs.YtchbidckckmobaaDoor
