/- More of the engine: a region that draws its order, with an invariant of what was done, of the slots and of memory. No condition. -/
import Derived.Test.YtbfphjhahgpndaaEt
namespace Go.Proofs.Ytbfphjhahgpndaa
open Go.RowKit
set_option linter.unusedVariables false
set_option linter.unusedSimpArgs false
namespace E
variable {P : Program} {n : Nat} {R : Exit → Env → World → Prop} {k : List KI} {e : Env} {w : World}
theorem k_anyE {id : Nat} {l : List Oper} (m : Nat) (Le : World → World → Prop) (V : Nat → Value → World → Prop) (G : (Nat → Bool) → Env → World → Prop) (hm : P.follows .mixedOrders = true) (hb : backB 0 l = true) (ht : tailB m 0 l = true) (ho : ownB (dsts (l.take m)) = true)
    (hrefl : ∀ w, Le w w) (htrans : ∀ a b c, Le a b → Le b c → Le a c) (hst : ∀ i v w w', V i v w → Le w w' → V i v w') (hG : G (fun _ => false) e w.drew)
    (hop : ∀ i o, i < m → l[i]? = some o → ∀ D e' w', D i = false → (∀ j ∈ deps o, D j = true) → Shut l D → G D e' w' → Le w.drew w' → (∀ t, (∀ j, j < m → slotOf l j ≠ some t) → e' t = e t) → (∀ j ∈ deps o, ∀ t, slotOf l j = some t → V j (e' t) w') →
      ow P n l (fun e2 w2 => Le w' w2 ∧ V i (rdo e2 o.dst) w2 ∧ G (fun x => if x = i then true else D x) (updo e' o.dst (rdo e2 o.dst)) w2) [o] e' w')
    (hend : ∀ D e' w', (∀ i, i < m → i < l.length → D i = true) → G D e' w' → Le w.drew w' → (∀ t, (∀ j, j < m → slotOf l j ≠ some t) → e' t = e t) → (∀ j, j < m → ∀ t, slotOf l j = some t → V j (e' t) w') → ow P n l (kw P n R k) (l.drop m) e' w') :
    kw P n R (.code (.region id l.toArray true) :: k) e w := by
  have hown : ∀ i j d, i < m → j < m → slotOf l i = some d → slotOf l j = some d → i = j := by
    intro i j d hi hj h1 h2
    have conv : ∀ i, i < m → slotOf l i = some d → (dsts (l.take m))[i]? = some (some d) := by
      intro i hi h1
      rw [← slotOf_eq] at h1
      cases hl : l[i]? with
      | none => rw [hl] at h1; simp at h1
      | some o => rw [hl] at h1; simp at h1; simp [dsts, List.getElem?_take, hi, hl, h1]
    exact ownB_spec _ ho i j d (conv i hi h1) (conv j hj h2)
  refine k_core2 hm hb (fun D e' w' =>
    ((Le w.drew w' ∧ G D e' w') ∧ (∀ t, (∀ j, j < m → D j = true → slotOf l j ≠ some t) → e' t = e t) ∧ (∀ j, j < m → D j = true → ∀ t, slotOf l j = some t → V j (e' t) w') ∧ (∀ q, m ≤ q → D q = false)) ∨
    (∃ q, m < q ∧ (∀ i, i < q → D i = true) ∧ (∀ i, q ≤ i → D i = false) ∧ ow P n l (kw P n R k) (l.drop q) e' w')) ?_ ?_ ?_ (fun hK => ow_mono hK)
  · exact .inl ⟨⟨hrefl _, hG⟩, fun t _ => rfl, fun j _ h => by simp at h, fun _ _ => rfl⟩
  · intro D e' w' i o hl hD hdep hShut hI
    by_cases him : i < m
    · rcases hI with ⟨⟨hL, hGD⟩, hA, hV, hq⟩ | ⟨q, hq, hall, _, _⟩
      · have hA' : ∀ t, (∀ j, j < m → slotOf l j ≠ some t) → e' t = e t := fun t h => hA t (fun j hj _ => h j hj)
        have hd : ∀ j ∈ deps o, ∀ t, slotOf l j = some t → V j (e' t) w' := by
          intro j hj t hs
          have := backB_spec l 0 hb i o hl j hj
          exact hV j (by omega) (hdep j hj) t hs
        refine ow_mono ?_ (ow_frame (hop i o him hl D e' w' hD hdep hShut hGD hL hA' hd))
        rintro e2 w2 ⟨⟨hL2, hV2, hG2⟩, v, rfl⟩
        have hdc : o.dst = none ∨ ∃ d, o.dst = some d := by cases o.dst <;> simp
        rcases hdc with hdst | ⟨d, hdst⟩
        · have hup : ∀ v, updo e' o.dst v = e' := fun v => by rw [hdst]; rfl
          rw [hup] at hG2 ⊢
          have hsi : slotOf l i = none := by rw [slotOf_dst hl, hdst]
          have hni : ∀ j t, slotOf l j = some t → j ≠ i := fun j t hs hji => by rw [hji, hsi] at hs; cases hs
          refine .inl ⟨⟨htrans _ _ _ hL hL2, hG2⟩, ?_, ?_, ?_⟩
          · intro t h
            exact hA t (fun j hj hDj => h j hj (by by_cases hji : j = i <;> simp [hji, hDj]))
          · intro j hj hDj t hs
            exact hst _ _ _ _ (hV j hj (by simpa [hni j t hs] using hDj) t hs) hL2
          · intro q hqm
            have : q ≠ i := by omega
            simp [this, hq q hqm]
        have hsi : slotOf l i = some d := by rw [slotOf_dst hl, hdst]
        refine .inl ⟨⟨htrans _ _ _ hL hL2, ?_⟩, ?_, ?_, ?_⟩
        · have : rdo (updo e' o.dst v) o.dst = v := by rw [hdst]; simp [rdo, updo, upd]
          rw [this] at hG2
          exact hG2
        · intro t h
          have hne : t ≠ d := fun h' => h i him (by simp) (by rw [hsi, h'])
          rw [hdst]
          show upd e' d v t = e t
          unfold upd
          rw [beqf hne]
          exact hA t (fun j hj hDj => h j hj (by by_cases hji : j = i <;> simp [hji, hDj]))
        · intro j hj hDj t hs
          by_cases hji : j = i
          · subst hji
            have htd : t = d := by rw [hsi] at hs; exact (Option.some.inj hs).symm
            subst htd
            rw [hdst] at hV2 ⊢
            exact hV2
          · have hne : t ≠ d := fun h' => hji (hown j i d hj him (by rw [hs, h']) hsi)
            rw [hdst]
            show V j (upd e' d v t) w2
            unfold upd
            rw [beqf hne]
            exact hst _ _ _ _ (hV j hj (by simpa [hji] using hDj) t hs) hL2
        · intro q hqm
          have : q ≠ i := by omega
          simp [this, hq q hqm]
      · have := hall i (by omega)
        rw [hD] at this
        cases this
    · have hdall : ∀ j, j < i → D j = true := tailB_spec m l ht i o hl (by omega) D hShut hdep
      have hdrop : l.drop i = o :: l.drop (i + 1) := by
        have hlt := (List.getElem?_eq_some_iff.1 hl).1
        rw [List.drop_eq_getElem_cons hlt, (List.getElem?_eq_some_iff.1 hl).2]
      have fin : (∀ j, i < j → D j = false) → ow P n l (kw P n R k) (l.drop i) e' w' → ow P n l (fun e2 w2 => ∃ q, m < q ∧ (∀ x, x < q → (if x = i then true else D x) = true) ∧ (∀ x, q ≤ x → (if x = i then true else D x) = false) ∧ ow P n l (kw P n R k) (l.drop q) e2 w2) [o] e' w' := by
        intro hlater hrun
        rw [hdrop] at hrun
        refine ow_mono ?_ (ow_cons hrun)
        intro e2 w2 h2
        refine ⟨i + 1, by omega, fun x hx => ?_, fun x hx => ?_, h2⟩
        · by_cases hxi : x = i
          · simp [hxi]
          · simp [hxi, hdall x (by omega)]
        · have : x ≠ i := by omega
          simp [this, hlater x (by omega)]
      rcases hI with ⟨⟨hL, hGD⟩, hA, hV, hq⟩ | ⟨q, hq, hall, hnone, hrun⟩
      · have him' : i = m := by
          by_cases h : i = m
          · exact h
          · have h1 := hdall m (by omega)
            rw [hq m (Nat.le_refl _)] at h1
            cases h1
        subst him'
        exact ow_mono (fun _ _ h => .inr h) (fin (fun j hj => hq j (by omega)) (hend D e' w' (fun j hj _ => hdall j hj) hGD hL (fun t h => hA t (fun j hj _ => h j hj)) (fun j hj t hs => hV j hj (hdall j hj) t hs)))
      · have hqi : q = i := by
          by_cases h1 : i < q
          · have := hall i h1; rw [hD] at this; cases this
          · by_cases h2 : q < i
            · have := hdall q h2; rw [hnone q (Nat.le_refl _)] at this; cases this
            · omega
        subst hqi
        exact ow_mono (fun _ _ h => .inr h) (fin (fun j hj => hnone j (by omega)) hrun)
  · intro D e' w' hall hI
    rcases hI with ⟨⟨hL, hGD⟩, hA, hV, hq⟩ | ⟨q, hq, hall', hnone, hrun⟩
    · have hlen : l.length ≤ m := by
        by_cases h : l.length ≤ m
        · exact h
        · have := hall m (by omega); rw [hq m (Nat.le_refl _)] at this; cases this
      have hin : ∀ j t, slotOf l j = some t → j < l.length := by
        intro j t hs
        rw [← slotOf_eq] at hs
        cases hl : l[j]? with
        | none => rw [hl] at hs; simp at hs
        | some o => exact (List.getElem?_eq_some_iff.1 hl).1
      have := hend D e' w' (fun j _ hj => hall j hj) hGD hL (fun t h => hA t (fun j hj _ => h j hj)) (fun j hj t hs => hV j hj (hall j (hin j t hs)) t hs)
      rw [List.drop_eq_nil_of_le hlen] at this
      exact this
    · have hlen : l.length ≤ q := by
        by_cases h : l.length ≤ q
        · exact h
        · have := hall q (by omega); rw [hnone q (Nat.le_refl _)] at this; cases this
      rw [List.drop_eq_nil_of_le hlen] at hrun
      exact hrun
end E
end Go.Proofs.Ytbfphjhahgpndaa
