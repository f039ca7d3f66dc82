/- Names: the files' names, rising. No condition beyond what each contract names. -/
import Derived.Test.YtbfphjhahgpndaaFg
namespace Go.Proofs.Ytbfphjhahgpndaa
open Go.RowKit E
set_option linter.unusedVariables false
set_option linter.unusedSimpArgs false
set_option maxRecDepth 100000
attribute [local irreducible] ow qw kw kq cw opW Ret
open Go.Maps Go.Sort
theorem RowsOk.keys {lo hi : Nat} {w : World} {m : List (ByteArray × Value)} {fs : FS} (h : RowsOk lo hi w m fs) : m.map (·.1) = fs.map (·.1) := by
  induction h with
  | nil => rfl
  | cons _ _ _ _ ih => simp [ih]
def bsL (s : ByteArray) : List UInt8 := s.data.toList
def bsO (l : List UInt8) : ByteArray := ⟨l.toArray⟩
theorem sl_of_own {w : World} {base : Nat} {v : Value} {xs : List Value} {k : Nat} (h : w.ownsRow base 9 1 v k xs) (hk : xs.length = k) : ∃ a c, v = .slice a k c ∧ Sl w 9 1 a k c xs ∧ ∀ q, a = some q → base ≤ q.block := by
  obtain ⟨h1, h2⟩ := h
  rcases h2 with ⟨rfl, rfl⟩ | ⟨g, cap, cur, rfl, hb, hg, r1, r2, r3, r4⟩
  · exact ⟨none, 0, rfl, ⟨h1, .inl ⟨rfl, rfl, rfl⟩⟩, by simp⟩
  · exact ⟨_, cap, rfl, ⟨h1, .inr ⟨g, cur, rfl, hg, r1, r2, r3, r4⟩⟩, fun q hq => by cases hq; exact hb⟩
theorem names_ok (k lo hi : Nat) (w : World) (r : Nat) (fs : FS) (n : Nat) (F : Int → Bool) (h : Fi k lo hi w r fs n F) (hnd : (fs.map (·.1)).Nodup) (hsz : ∀ p ∈ fs, p.1.size ≤ 64) (hlen : fs.length ≤ 16) :
    Ret Try.prog 20 [.pointer (some ⟨r, 0, none⟩)] w (fun v w' => New w w' 9 v (((fs.map fun p => bsL p.1).mergeSort leB).map (fun l => .string (bsO l))) ∧ Keep [] w w') := by
  obtain ⟨rr, rf, m, fm, hP⟩ := h
  have hkeys := hP.ok.keys
  have hml := hP.ok.len
  obtain ⟨D, hown, hperm, hDs⟩ := own_of hP.rows (by rw [hkeys]; exact hnd) (by
    intro p hp
    have h1 : p.1 ∈ m.map (·.1) := List.mem_map_of_mem hp
    rw [hkeys] at h1
    obtain ⟨q, hq, he⟩ := List.mem_map.1 h1
    have := hsz q hq
    rw [← he]
    exact Nat.le_trans this (by decide)) (by rw [hml]; exact Nat.le_trans hlen (by decide))
  have c1 : Ret Try.prog 24 [.map (some rr)] w (fun v w' => v = .func (.func 28) #[] #[.pointer (some ⟨w.heap.size, 0, none⟩)] ∧ w' = w.alloc (.cells #[.map (some rr)] 55)) := by
    unfold Ret
    refine Calls.mono (callsIn_wide.1 (Try.maps_Keys_24 (some rr) w)) ?_
    rintro e w' ⟨rfl, rfl⟩
    exact ⟨rfl, rfl⟩
  have c2 : Ret Try.prog 23 [.func (.func 28) #[] #[.pointer (some ⟨w.heap.size, 0, none⟩)]] (w.alloc (.cells #[.map (some rr)] 55)) (fun v w' => New w w' 9 v (((fs.map fun p => bsL p.1).mergeSort leB).map (fun l => .string (bsO l))) ∧ Keep [] w w') := by
    unfold Ret
    refine Calls.mono (callsIn_wide.1 (Try.slices_Sorted_keys_23_24 rr _ D R0 w hown (by rw [hDs, hml]; exact Nat.le_trans hlen (by decide)) (by rw [hDs, hml]; omega))) ?_
    rintro e w' ⟨v, ss, rfl, hS, hrow, hnil, hb⟩
    have hK1 : Keep [] w (w.alloc (.cells #[.map (some rr)] 55)) := keep_alloc [] w _
    have hK2 : Keep [] (w.alloc (.cells #[.map (some rr)] 55)) w' := Keep.of_below hb
    have hss : ss.mergeSort leB = (fs.map fun p => bsL p.1).mergeSort leB := by
      refine mergeSort_of_perm ((hS.trans hperm).trans ?_)
      have : (m.map fun p => p.1.data.toList) = (fs.map fun p => bsL p.1) := by
        have := congrArg (List.map bsL) hkeys
        rw [List.map_map, List.map_map] at this
        exact this
      rw [this]
    have hrow2 : w'.ownsRow (w.alloc (.cells #[.map (some rr)] 55)).heap.size 9 1 v ss.length ((ss.mergeSort leB).map encStr) := hrow
    rw [hss] at hrow2
    have hl2 : (((fs.map fun p => bsL p.1).mergeSort leB).map (fun l => Value.string (bsO l))).length = ss.length := by
      rw [← hss]; simp
    obtain ⟨a, c, rfl, hSl, hf⟩ := sl_of_own hrow2 hl2
    refine ⟨⟨a, c, ?_, ?_, fun q hq => ?_⟩, hK1.tr hK2⟩
    · rw [hl2]
    · rw [hl2]; exact hSl
    · have := hf q hq
      have := hK1.size
      omega
  have hrb := hP.rows.blk hP.blk
  refine fn_enter (n := 11) Try.func20 rfl rfl (Nat.le_of_ble_eq_true rfl) (fun e => ?_)
  refine k_seq ?_
  refine k_region ?_
  refine m_sl rfl rfl ?_
  refine o_nil ?_
  refine k_seq ?_
  refine k_seq ?_
  refine k_region ?_
  refine m_ptr rfl rfl ?_
  refine b_eqlp Try.underlying25 rfl rfl ?_
  refine o_nil ?_
  refine k_no rfl ((by simp)) ?_
  refine k_skip ?_
  refine k_seq ?_
  refine k_region ?_
  refine m_ptr rfl rfl ?_
  refine o_nilc rfl ?_
  refine o_fld0 rfl rfl ?_
  refine o_ld rfl rfl (hP.blk.at rfl) ?_
  refine o_call rfl rfl c1 (fun v w1 hv => ?_)
  obtain ⟨rfl, rfl⟩ := hv
  refine o_call rfl rfl c2 (fun v w1 hv => ?_)
  obtain ⟨⟨a2, c2, rfl, hS2, hf2⟩, hK2⟩ := hv
  refine m_sl rfl rfl ?_
  refine o_nil ?_
  refine k_ret (ret_tmps (ts := [2]) (v := .slice _ _ _) rfl rfl ?_)
  exact ⟨⟨a2, c2, rfl, hS2, hf2⟩, hK2⟩
end Go.Proofs.Ytbfphjhahgpndaa
