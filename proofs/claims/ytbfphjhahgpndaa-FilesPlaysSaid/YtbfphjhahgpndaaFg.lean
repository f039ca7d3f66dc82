/- A map in memory as the shelf wants it. No condition beyond what each lemma names. -/
import Derived.Test.YtbfphjhahgpndaaFd
import Derived.Test.YtbfphjhahgpndaaShelf
namespace Go.Proofs.Ytbfphjhahgpndaa
open Go.RowKit E
set_option linter.unusedVariables false
set_option linter.unusedSimpArgs false
set_option maxRecDepth 100000
attribute [local irreducible] ow qw kw kq cw opW Ret
open Go.Maps Go.Sort Go.ChangeMaps Go.MapKept Go.WideShapes
def R0 : Value → Option (DataW Unit × List MemPlace) := fun _ => some (.lit (.bool true), [])
theorem key_str (s : ByteArray) (hs : s.size ≤ maxLen) : keyOf Try.prog 9 (.string s) = some (.string s.data.toList) := by
  simp [keyOf, Try.underlying9, mapKey, hs]
theorem own_of {w : World} {rr : Nat} {m : List (ByteArray × Value)} (hM : Mp w rr Value.string m) (hnd : (m.map (·.1)).Nodup) (hsz : ∀ p ∈ m, p.1.size ≤ maxLen) (hl : m.length ≤ maxLen) :
    ∃ D : DataW Unit, w.ownsMap Try.prog 9 R0 rr m.length D ∧ (strKeys D).Perm (m.map fun p => p.1.data.toList) ∧ Maps.size D = m.length := by
  obtain ⟨es, clock, hh, he, hb, hn⟩ := hM
  have hlen : es.size = m.length := by have := congrArg List.length he; simpa using this
  have hkeys := Mp.keys he
  have hkm : ∀ x ∈ es.toList, ∃ s : ByteArray, x.key = .string s ∧ s.size ≤ maxLen := by
    intro x hx
    have h1 : x.key ∈ es.toList.map (·.key) := List.mem_map_of_mem hx
    rw [hkeys] at h1
    obtain ⟨s, hs, he'⟩ := List.mem_map.1 h1
    obtain ⟨p, hp, rfl⟩ := List.mem_map.1 hs
    exact ⟨p.1, he'.symm, hsz p hp⟩
  have hrd : ∀ x ∈ es.toList, ∀ s : ByteArray, x.key = .string s → s.size ≤ maxLen → Go.WideElems.rd Try.prog 9 R0 x = some (.string s.data.toList, .lit (.bool true)) := by
    intro x hx s hs hss
    simp [Go.WideElems.rd, hs, key_str s hss, R0]
  have hfit : Go.WideElems.Fit Try.prog 9 R0 es clock := by
    refine ⟨by omega, ⟨hb, hn, ?_⟩, fun x hx => ?_⟩
    · rw [hkeys]
      exact List.Pairwise.map _ (fun a b hab hne => hab (by simpa using hne)) hnd
    · obtain ⟨s, hs, hss⟩ := hkm x hx
      exact ⟨_, hrd x hx s hs hss⟩
  refine ⟨_, ⟨es, clock, hh, hfit, by omega, rfl⟩, ?_, ?_⟩
  · show ((((es.toList.map (Go.WideElems.rg Try.prog 9 R0)).foldr DataW.insert []).map fun p => strOf p.1)).Perm _
    refine ((sorted_perm _).map _).trans ?_
    have : (es.toList.map (Go.WideElems.rg Try.prog 9 R0)).map (fun p => strOf p.1) = m.map fun p => p.1.data.toList := by
      have h2 : (es.toList.map (Go.WideElems.rg Try.prog 9 R0)).map (fun p => strOf p.1) = (es.toList.map (·.key)).map (fun v => match v with | .string s => s.data.toList | _ => []) := by
        rw [List.map_map, List.map_map]
        refine List.map_congr_left (fun x hx => ?_)
        obtain ⟨s, hs, hss⟩ := hkm x hx
        simp only [Function.comp_apply, Go.WideElems.rg_of (hrd x hx s hs hss), hs, strOf]
      rw [h2, hkeys, List.map_map, List.map_map]
      rfl
    rw [this]
  · show ((es.toList.map (Go.WideElems.rg Try.prog 9 R0)).foldr DataW.insert []).length = _
    rw [DataW.length_sorted]; simpa using hlen
end Go.Proofs.Ytbfphjhahgpndaa
