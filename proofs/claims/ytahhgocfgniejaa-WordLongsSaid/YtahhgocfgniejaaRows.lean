/-
  No cell of these rows narrows 'for every input' (looked for: loops, veiled, ifaces, maps, wideKeys, modest, calm, conditions, laid).
  DERIVED. THE GIVEN ROWS OF THIS SEAT. 7 by the template 'for every input the law returns true; each argument reads behind the call as it read before'; 0 by the template 'total and deterministic' (their statements: YtahhgocfgniejaaTotals.lean).
  GIVEN WITH THE SEED: the statements are not yours to turn. If you find one false, say at which input.
  Laid BY PROGRAM, IN A SANDBOX (cutbox-rows.mjs): the forced cells as the released guide's own fill.sh prints them over the translation a0aba816cef327c2… (all of the seat's roots in one cut). By AI agents, Wed Nov 11 2026. No macro, syntax, notation, axiom, sorry.
-/
import Derived.Test.YtahhgocfgniejaaChecked
import GoSem.Claim
import GoSem.ClaimJoined
import GoSem.ClaimMapViews
import Derived.JoinedTies
import Derived.KernelRfl
namespace Go.Proofs.Ytahhgocfgniejaa
/- THE CELL 'sum', in the pinned program and in every row, IS THE sha256 OF THE DUMP (.gsa) THAT YtahhgocfgniejaaProg.lean LOADS. Nothing in Lean hashes anything: it is a label: what it is worth is what the hold of that sum in a sandbox is worth. -/
noncomputable def Try.pinned : Pinned := { name := "ytahhgocfgniejaa", sum := "a0aba816cef327c2e03a3e1a200bc2029281bfd92074f5e3b585f31107493134", checked := Try.checked }
namespace Rows
def none {H : Type} : Left H := { results := [], args := [] }

/-- 'samovarlaw01.WordInts': WHATEVER THE INPUT: true; the input reads as it did. -/
def wordIntsSpec : ChangeSpec := { name := "wordInts", fn := fun _ => fun
  | [d1, d2, d3] => { results := [.lit (.bool true)], args := [d1, d2, d3] }
  | _ => none }
def wordIntsRow : OpenClaim := { program := "ytahhgocfgniejaa", sum := "a0aba816cef327c2e03a3e1a200bc2029281bfd92074f5e3b585f31107493134", func := "samovar/samovarlaw01.WordInts", spec := "wordInts", apart := false }
def WordIntsSaid : Prop := wordIntsRow.holds Try.pinned (OpenSpec.ofChange wordIntsSpec)

/-- ITS FALSE NEIGHBOUR: 'it returns false'. Refute it at one input. -/
def wordIntsWrong : ChangeSpec := { name := "wordInts", fn := fun _ => fun
  | [d1, d2, d3] => { results := [.lit (.bool false)], args := [d1, d2, d3] }
  | _ => none }
def WordIntsWrongFalsely : Prop := wordIntsRow.holds Try.pinned (OpenSpec.ofChange wordIntsWrong)

/-- 'samovarlaw01.WordLongs': WHATEVER THE INPUT: true; the input reads as it did. -/
def wordLongsSpec : ChangeSpec := { name := "wordLongs", fn := fun _ => fun
  | [d1, d2, d3] => { results := [.lit (.bool true)], args := [d1, d2, d3] }
  | _ => none }
def wordLongsRow : OpenClaim := { program := "ytahhgocfgniejaa", sum := "a0aba816cef327c2e03a3e1a200bc2029281bfd92074f5e3b585f31107493134", func := "samovar/samovarlaw01.WordLongs", spec := "wordLongs", apart := false }
def WordLongsSaid : Prop := wordLongsRow.holds Try.pinned (OpenSpec.ofChange wordLongsSpec)

/-- ITS FALSE NEIGHBOUR: 'it returns false'. Refute it at one input. -/
def wordLongsWrong : ChangeSpec := { name := "wordLongs", fn := fun _ => fun
  | [d1, d2, d3] => { results := [.lit (.bool false)], args := [d1, d2, d3] }
  | _ => none }
def WordLongsWrongFalsely : Prop := wordLongsRow.holds Try.pinned (OpenSpec.ofChange wordLongsWrong)

/-- 'samovarlaw01.WordCuts': WHATEVER THE INPUT: true; the input reads as it did. -/
def wordCutsSpec : ChangeSpec := { name := "wordCuts", fn := fun _ => fun
  | [d1, d2, d3] => { results := [.lit (.bool true)], args := [d1, d2, d3] }
  | _ => none }
def wordCutsRow : OpenClaim := { program := "ytahhgocfgniejaa", sum := "a0aba816cef327c2e03a3e1a200bc2029281bfd92074f5e3b585f31107493134", func := "samovar/samovarlaw01.WordCuts", spec := "wordCuts", apart := false }
def WordCutsSaid : Prop := wordCutsRow.holds Try.pinned (OpenSpec.ofChange wordCutsSpec)

/-- ITS FALSE NEIGHBOUR: 'it returns false'. Refute it at one input. -/
def wordCutsWrong : ChangeSpec := { name := "wordCuts", fn := fun _ => fun
  | [d1, d2, d3] => { results := [.lit (.bool false)], args := [d1, d2, d3] }
  | _ => none }
def WordCutsWrongFalsely : Prop := wordCutsRow.holds Try.pinned (OpenSpec.ofChange wordCutsWrong)

/-- 'samovarlaw01.WordHolds': WHATEVER THE INPUT: true; the input reads as it did. -/
def wordHoldsSpec : ChangeSpec := { name := "wordHolds", fn := fun _ => fun
  | [d1, d2, d3] => { results := [.lit (.bool true)], args := [d1, d2, d3] }
  | _ => none }
def wordHoldsRow : OpenClaim := { program := "ytahhgocfgniejaa", sum := "a0aba816cef327c2e03a3e1a200bc2029281bfd92074f5e3b585f31107493134", func := "samovar/samovarlaw01.WordHolds", spec := "wordHolds", apart := false }
def WordHoldsSaid : Prop := wordHoldsRow.holds Try.pinned (OpenSpec.ofChange wordHoldsSpec)

/-- ITS FALSE NEIGHBOUR: 'it returns false'. Refute it at one input. -/
def wordHoldsWrong : ChangeSpec := { name := "wordHolds", fn := fun _ => fun
  | [d1, d2, d3] => { results := [.lit (.bool false)], args := [d1, d2, d3] }
  | _ => none }
def WordHoldsWrongFalsely : Prop := wordHoldsRow.holds Try.pinned (OpenSpec.ofChange wordHoldsWrong)

/-- 'samovarlaw01.WordRing': WHATEVER THE INPUT: true; the input reads as it did. -/
def wordRingSpec : ChangeSpec := { name := "wordRing", fn := fun _ => fun
  | [d1, d2, d3] => { results := [.lit (.bool true)], args := [d1, d2, d3] }
  | _ => none }
def wordRingRow : OpenClaim := { program := "ytahhgocfgniejaa", sum := "a0aba816cef327c2e03a3e1a200bc2029281bfd92074f5e3b585f31107493134", func := "samovar/samovarlaw01.WordRing", spec := "wordRing", apart := false }
def WordRingSaid : Prop := wordRingRow.holds Try.pinned (OpenSpec.ofChange wordRingSpec)

/-- ITS FALSE NEIGHBOUR: 'it returns false'. Refute it at one input. -/
def wordRingWrong : ChangeSpec := { name := "wordRing", fn := fun _ => fun
  | [d1, d2, d3] => { results := [.lit (.bool false)], args := [d1, d2, d3] }
  | _ => none }
def WordRingWrongFalsely : Prop := wordRingRow.holds Try.pinned (OpenSpec.ofChange wordRingWrong)

/-- 'samovarlaw01.WordDivides': WHATEVER THE INPUT: true; the input reads as it did. -/
def wordDividesSpec : ChangeSpec := { name := "wordDivides", fn := fun _ => fun
  | [d1, d2] => { results := [.lit (.bool true)], args := [d1, d2] }
  | _ => none }
def wordDividesRow : OpenClaim := { program := "ytahhgocfgniejaa", sum := "a0aba816cef327c2e03a3e1a200bc2029281bfd92074f5e3b585f31107493134", func := "samovar/samovarlaw01.WordDivides", spec := "wordDivides", apart := false }
def WordDividesSaid : Prop := wordDividesRow.holds Try.pinned (OpenSpec.ofChange wordDividesSpec)

/-- ITS FALSE NEIGHBOUR: 'it returns false'. Refute it at one input. -/
def wordDividesWrong : ChangeSpec := { name := "wordDivides", fn := fun _ => fun
  | [d1, d2] => { results := [.lit (.bool false)], args := [d1, d2] }
  | _ => none }
def WordDividesWrongFalsely : Prop := wordDividesRow.holds Try.pinned (OpenSpec.ofChange wordDividesWrong)

/-- 'samovarlaw01.WordShifts': WHATEVER THE INPUT: true; the input reads as it did. -/
def wordShiftsSpec : ChangeSpec := { name := "wordShifts", fn := fun _ => fun
  | [d1, d2, d3] => { results := [.lit (.bool true)], args := [d1, d2, d3] }
  | _ => none }
def wordShiftsRow : OpenClaim := { program := "ytahhgocfgniejaa", sum := "a0aba816cef327c2e03a3e1a200bc2029281bfd92074f5e3b585f31107493134", func := "samovar/samovarlaw01.WordShifts", spec := "wordShifts", apart := false }
def WordShiftsSaid : Prop := wordShiftsRow.holds Try.pinned (OpenSpec.ofChange wordShiftsSpec)

/-- ITS FALSE NEIGHBOUR: 'it returns false'. Refute it at one input. -/
def wordShiftsWrong : ChangeSpec := { name := "wordShifts", fn := fun _ => fun
  | [d1, d2, d3] => { results := [.lit (.bool false)], args := [d1, d2, d3] }
  | _ => none }
def WordShiftsWrongFalsely : Prop := wordShiftsRow.holds Try.pinned (OpenSpec.ofChange wordShiftsWrong)

/- THE SECOND FORM. 'bulk': how many values and letters a reading holds, each counted each time it is reached (what is shared counts as often as it is met; a slice's spare places count too). A statement '..UptoSaid' is the law's where the arguments, and the package variables that the reading takes, are together of bulk at most 1048576: NARROWER than '..Said'. Prove '..Said' where nothing that the law and all that it calls make is longer than what came in: it says more and counts as full. Else prove '..UptoSaid'. A law counts once. -/
mutual
def uptoBulk {H : Type} : DataW H → Nat
  | .lit (.string bytes) => bytes.length + 1
  | .lit _ => 1
  | .nil => 1
  | .ptr d => uptoBulk d + 1
  | .slice elems spare => uptoBulkAll elems + uptoBulkAll spare + 1
  | .agg parts => uptoBulkAll parts + 1
  | .iface _ d => uptoBulk d + 1
  | .map entries => uptoBulkEntries entries + 1
  | .held _ => 1
def uptoBulkAll {H : Type} : List (DataW H) → Nat
  | [] => 0
  | d :: r => uptoBulk d + uptoBulkAll r
def uptoBulkEntries {H : Type} : List (Lit × DataW H) → Nat
  | [] => 0
  | x :: r => uptoBulkEntry x + uptoBulkEntries r
def uptoBulkEntry {H : Type} : Lit × DataW H → Nat
  | (.string bytes, d) => bytes.length + uptoBulk d + 1
  | (_, d) => uptoBulk d + 1
 end
def uptoSmall : (H : Type) → List (DataW H) → Bool := fun _ ds => decide (uptoBulkAll ds ≤ 1048576)
def OpenSpec.upto (s : _root_.Go.ChangeSpec) : _root_.Go.OpenSpec := { _root_.Go.OpenSpec.ofChange s with cond := some uptoSmall }

/-- 'samovarlaw01.WordInts', WHERE WHAT IT READS IS OF BULK AT MOST 1048576: true; the input reads as it did. -/
def wordIntsUptoRow : OpenClaim := { program := "ytahhgocfgniejaa", sum := "a0aba816cef327c2e03a3e1a200bc2029281bfd92074f5e3b585f31107493134", func := "samovar/samovarlaw01.WordInts", spec := "wordInts", apart := false, narrowed := true }
def WordIntsUptoSaid : Prop := wordIntsUptoRow.holds Try.pinned (OpenSpec.upto wordIntsSpec)

/-- 'samovarlaw01.WordLongs', WHERE WHAT IT READS IS OF BULK AT MOST 1048576: true; the input reads as it did. -/
def wordLongsUptoRow : OpenClaim := { program := "ytahhgocfgniejaa", sum := "a0aba816cef327c2e03a3e1a200bc2029281bfd92074f5e3b585f31107493134", func := "samovar/samovarlaw01.WordLongs", spec := "wordLongs", apart := false, narrowed := true }
def WordLongsUptoSaid : Prop := wordLongsUptoRow.holds Try.pinned (OpenSpec.upto wordLongsSpec)

/-- 'samovarlaw01.WordCuts', WHERE WHAT IT READS IS OF BULK AT MOST 1048576: true; the input reads as it did. -/
def wordCutsUptoRow : OpenClaim := { program := "ytahhgocfgniejaa", sum := "a0aba816cef327c2e03a3e1a200bc2029281bfd92074f5e3b585f31107493134", func := "samovar/samovarlaw01.WordCuts", spec := "wordCuts", apart := false, narrowed := true }
def WordCutsUptoSaid : Prop := wordCutsUptoRow.holds Try.pinned (OpenSpec.upto wordCutsSpec)

/-- 'samovarlaw01.WordHolds', WHERE WHAT IT READS IS OF BULK AT MOST 1048576: true; the input reads as it did. -/
def wordHoldsUptoRow : OpenClaim := { program := "ytahhgocfgniejaa", sum := "a0aba816cef327c2e03a3e1a200bc2029281bfd92074f5e3b585f31107493134", func := "samovar/samovarlaw01.WordHolds", spec := "wordHolds", apart := false, narrowed := true }
def WordHoldsUptoSaid : Prop := wordHoldsUptoRow.holds Try.pinned (OpenSpec.upto wordHoldsSpec)

/-- 'samovarlaw01.WordRing', WHERE WHAT IT READS IS OF BULK AT MOST 1048576: true; the input reads as it did. -/
def wordRingUptoRow : OpenClaim := { program := "ytahhgocfgniejaa", sum := "a0aba816cef327c2e03a3e1a200bc2029281bfd92074f5e3b585f31107493134", func := "samovar/samovarlaw01.WordRing", spec := "wordRing", apart := false, narrowed := true }
def WordRingUptoSaid : Prop := wordRingUptoRow.holds Try.pinned (OpenSpec.upto wordRingSpec)

/-- 'samovarlaw01.WordDivides', WHERE WHAT IT READS IS OF BULK AT MOST 1048576: true; the input reads as it did. -/
def wordDividesUptoRow : OpenClaim := { program := "ytahhgocfgniejaa", sum := "a0aba816cef327c2e03a3e1a200bc2029281bfd92074f5e3b585f31107493134", func := "samovar/samovarlaw01.WordDivides", spec := "wordDivides", apart := false, narrowed := true }
def WordDividesUptoSaid : Prop := wordDividesUptoRow.holds Try.pinned (OpenSpec.upto wordDividesSpec)

/-- 'samovarlaw01.WordShifts', WHERE WHAT IT READS IS OF BULK AT MOST 1048576: true; the input reads as it did. -/
def wordShiftsUptoRow : OpenClaim := { program := "ytahhgocfgniejaa", sum := "a0aba816cef327c2e03a3e1a200bc2029281bfd92074f5e3b585f31107493134", func := "samovar/samovarlaw01.WordShifts", spec := "wordShifts", apart := false, narrowed := true }
def WordShiftsUptoSaid : Prop := wordShiftsUptoRow.holds Try.pinned (OpenSpec.upto wordShiftsSpec)

end Rows
end Go.Proofs.Ytahhgocfgniejaa
