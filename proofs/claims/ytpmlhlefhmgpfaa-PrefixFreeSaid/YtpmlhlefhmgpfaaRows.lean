/-
  No cell of these rows narrows 'for every input' (looked for: loops, veiled, ifaces, maps, wideKeys, modest, calm, conditions, laid).
  DERIVED. THE GIVEN ROWS OF THIS SEAT. 9 by the template 'for every input the law returns true; each argument reads behind the call as it read before'; 0 by the template 'total and deterministic' (their statements: YtpmlhlefhmgpfaaTotals.lean).
  GIVEN WITH THE SEED: the statements are not yours to turn. If you find one false, say at which input.
  Laid BY PROGRAM, IN A SANDBOX (cutbox-rows.mjs): the forced cells as the released guide's own fill.sh prints them over the translation 30b891939021ade8… (all of the seat's roots in one cut). By AI agents, Wed Nov 11 2026. No macro, syntax, notation, axiom, sorry.
-/
import Derived.Test.YtpmlhlefhmgpfaaChecked
import GoSem.Claim
import GoSem.ClaimJoined
import GoSem.ClaimMapViews
import Derived.JoinedTies
import Derived.KernelRfl
namespace Go.Proofs.Ytpmlhlefhmgpfaa
/- THE CELL 'sum', in the pinned program and in every row, IS THE sha256 OF THE DUMP (.gsa) THAT YtpmlhlefhmgpfaaProg.lean LOADS. Nothing in Lean hashes anything: it is a label: what it is worth is what the hold of that sum in a sandbox is worth. -/
noncomputable def Try.pinned : Pinned := { name := "ytpmlhlefhmgpfaa", sum := "30b891939021ade83aabc6378dcb8db435ccbe93754e77b92aee08e55df31e4f", checked := Try.checked }
namespace Rows
def none {H : Type} : Left H := { results := [], args := [] }

/-- 'samovarlaw04.BitsWrites': WHATEVER THE INPUT: true; the input reads as it did. -/
def bitsWritesSpec : ChangeSpec := { name := "bitsWrites", fn := fun _ => fun
  | [d] => { results := [.lit (.bool true)], args := [d] }
  | _ => none }
def bitsWritesRow : OpenClaim := { program := "ytpmlhlefhmgpfaa", sum := "30b891939021ade83aabc6378dcb8db435ccbe93754e77b92aee08e55df31e4f", func := "samovar/samovarlaw04.BitsWrites", spec := "bitsWrites", plainKeys := false, apart := false }
def BitsWritesSaid : Prop := bitsWritesRow.holds Try.pinned (OpenSpec.ofChange bitsWritesSpec)

/-- ITS FALSE NEIGHBOUR: 'it returns false'. Refute it at one input. -/
def bitsWritesWrong : ChangeSpec := { name := "bitsWrites", fn := fun _ => fun
  | [d] => { results := [.lit (.bool false)], args := [d] }
  | _ => none }
def BitsWritesWrongFalsely : Prop := bitsWritesRow.holds Try.pinned (OpenSpec.ofChange bitsWritesWrong)

/-- 'samovarlaw04.BitsBack': WHATEVER THE INPUT: true; the input reads as it did. -/
def bitsBackSpec : ChangeSpec := { name := "bitsBack", fn := fun _ => fun
  | [d1, d2] => { results := [.lit (.bool true)], args := [d1, d2] }
  | _ => none }
def bitsBackRow : OpenClaim := { program := "ytpmlhlefhmgpfaa", sum := "30b891939021ade83aabc6378dcb8db435ccbe93754e77b92aee08e55df31e4f", func := "samovar/samovarlaw04.BitsBack", spec := "bitsBack", plainKeys := false, apart := false }
def BitsBackSaid : Prop := bitsBackRow.holds Try.pinned (OpenSpec.ofChange bitsBackSpec)

/-- ITS FALSE NEIGHBOUR: 'it returns false'. Refute it at one input. -/
def bitsBackWrong : ChangeSpec := { name := "bitsBack", fn := fun _ => fun
  | [d1, d2] => { results := [.lit (.bool false)], args := [d1, d2] }
  | _ => none }
def BitsBackWrongFalsely : Prop := bitsBackRow.holds Try.pinned (OpenSpec.ofChange bitsBackWrong)

/-- 'samovarlaw04.BitsReads': WHATEVER THE INPUT: true; the input reads as it did. -/
def bitsReadsSpec : ChangeSpec := { name := "bitsReads", fn := fun _ => fun
  | [d1, d2] => { results := [.lit (.bool true)], args := [d1, d2] }
  | _ => none }
def bitsReadsRow : OpenClaim := { program := "ytpmlhlefhmgpfaa", sum := "30b891939021ade83aabc6378dcb8db435ccbe93754e77b92aee08e55df31e4f", func := "samovar/samovarlaw04.BitsReads", spec := "bitsReads", plainKeys := false, apart := false }
def BitsReadsSaid : Prop := bitsReadsRow.holds Try.pinned (OpenSpec.ofChange bitsReadsSpec)

/-- ITS FALSE NEIGHBOUR: 'it returns false'. Refute it at one input. -/
def bitsReadsWrong : ChangeSpec := { name := "bitsReads", fn := fun _ => fun
  | [d1, d2] => { results := [.lit (.bool false)], args := [d1, d2] }
  | _ => none }
def BitsReadsWrongFalsely : Prop := bitsReadsRow.holds Try.pinned (OpenSpec.ofChange bitsReadsWrong)

/-- 'samovarlaw04.BitsNil': WHATEVER THE INPUT: true; the input reads as it did. -/
def bitsNilSpec : ChangeSpec := { name := "bitsNil", fn := fun _ => fun
  | [d1, d2] => { results := [.lit (.bool true)], args := [d1, d2] }
  | _ => none }
def bitsNilRow : OpenClaim := { program := "ytpmlhlefhmgpfaa", sum := "30b891939021ade83aabc6378dcb8db435ccbe93754e77b92aee08e55df31e4f", func := "samovar/samovarlaw04.BitsNil", spec := "bitsNil", plainKeys := false, apart := false }
def BitsNilSaid : Prop := bitsNilRow.holds Try.pinned (OpenSpec.ofChange bitsNilSpec)

/-- ITS FALSE NEIGHBOUR: 'it returns false'. Refute it at one input. -/
def bitsNilWrong : ChangeSpec := { name := "bitsNil", fn := fun _ => fun
  | [d1, d2] => { results := [.lit (.bool false)], args := [d1, d2] }
  | _ => none }
def BitsNilWrongFalsely : Prop := bitsNilRow.holds Try.pinned (OpenSpec.ofChange bitsNilWrong)

/-- 'samovarlaw05.PrefixMakes': WHATEVER THE INPUT: true; the input reads as it did. -/
def prefixMakesSpec : ChangeSpec := { name := "prefixMakes", fn := fun _ => fun
  | [d1, d2, d3] => { results := [.lit (.bool true)], args := [d1, d2, d3] }
  | _ => none }
def prefixMakesRow : OpenClaim := { program := "ytpmlhlefhmgpfaa", sum := "30b891939021ade83aabc6378dcb8db435ccbe93754e77b92aee08e55df31e4f", func := "samovar/samovarlaw05.PrefixMakes", spec := "prefixMakes", plainKeys := false, apart := false }
def PrefixMakesSaid : Prop := prefixMakesRow.holds Try.pinned (OpenSpec.ofChange prefixMakesSpec)

/-- ITS FALSE NEIGHBOUR: 'it returns false'. Refute it at one input. -/
def prefixMakesWrong : ChangeSpec := { name := "prefixMakes", fn := fun _ => fun
  | [d1, d2, d3] => { results := [.lit (.bool false)], args := [d1, d2, d3] }
  | _ => none }
def PrefixMakesWrongFalsely : Prop := prefixMakesRow.holds Try.pinned (OpenSpec.ofChange prefixMakesWrong)

/-- 'samovarlaw05.PrefixFree': WHATEVER THE INPUT: true; the input reads as it did. -/
def prefixFreeSpec : ChangeSpec := { name := "prefixFree", fn := fun _ => fun
  | [d1, d2] => { results := [.lit (.bool true)], args := [d1, d2] }
  | _ => none }
def prefixFreeRow : OpenClaim := { program := "ytpmlhlefhmgpfaa", sum := "30b891939021ade83aabc6378dcb8db435ccbe93754e77b92aee08e55df31e4f", func := "samovar/samovarlaw05.PrefixFree", spec := "prefixFree", plainKeys := false, apart := false }
def PrefixFreeSaid : Prop := prefixFreeRow.holds Try.pinned (OpenSpec.ofChange prefixFreeSpec)

/-- ITS FALSE NEIGHBOUR: 'it returns false'. Refute it at one input. -/
def prefixFreeWrong : ChangeSpec := { name := "prefixFree", fn := fun _ => fun
  | [d1, d2] => { results := [.lit (.bool false)], args := [d1, d2] }
  | _ => none }
def PrefixFreeWrongFalsely : Prop := prefixFreeRow.holds Try.pinned (OpenSpec.ofChange prefixFreeWrong)

/-- 'samovarlaw05.PrefixNil': WHATEVER THE INPUT: true; the input reads as it did. -/
def prefixNilSpec : ChangeSpec := { name := "prefixNil", fn := fun _ => fun
  | [d] => { results := [.lit (.bool true)], args := [d] }
  | _ => none }
def prefixNilRow : OpenClaim := { program := "ytpmlhlefhmgpfaa", sum := "30b891939021ade83aabc6378dcb8db435ccbe93754e77b92aee08e55df31e4f", func := "samovar/samovarlaw05.PrefixNil", spec := "prefixNil", plainKeys := false, apart := false }
def PrefixNilSaid : Prop := prefixNilRow.holds Try.pinned (OpenSpec.ofChange prefixNilSpec)

/-- ITS FALSE NEIGHBOUR: 'it returns false'. Refute it at one input. -/
def prefixNilWrong : ChangeSpec := { name := "prefixNil", fn := fun _ => fun
  | [d] => { results := [.lit (.bool false)], args := [d] }
  | _ => none }
def PrefixNilWrongFalsely : Prop := prefixNilRow.holds Try.pinned (OpenSpec.ofChange prefixNilWrong)

/-- 'samovarlaw05.PrefixReads': WHATEVER THE INPUT: true; the input reads as it did. -/
def prefixReadsSpec : ChangeSpec := { name := "prefixReads", fn := fun _ => fun
  | [d1, d2, d3] => { results := [.lit (.bool true)], args := [d1, d2, d3] }
  | _ => none }
def prefixReadsRow : OpenClaim := { program := "ytpmlhlefhmgpfaa", sum := "30b891939021ade83aabc6378dcb8db435ccbe93754e77b92aee08e55df31e4f", func := "samovar/samovarlaw05.PrefixReads", spec := "prefixReads", plainKeys := false, apart := false }
def PrefixReadsSaid : Prop := prefixReadsRow.holds Try.pinned (OpenSpec.ofChange prefixReadsSpec)

/-- ITS FALSE NEIGHBOUR: 'it returns false'. Refute it at one input. -/
def prefixReadsWrong : ChangeSpec := { name := "prefixReads", fn := fun _ => fun
  | [d1, d2, d3] => { results := [.lit (.bool false)], args := [d1, d2, d3] }
  | _ => none }
def PrefixReadsWrongFalsely : Prop := prefixReadsRow.holds Try.pinned (OpenSpec.ofChange prefixReadsWrong)

/-- 'samovarlaw05.PrefixBack': WHATEVER THE INPUT: true; the input reads as it did. -/
def prefixBackSpec : ChangeSpec := { name := "prefixBack", fn := fun _ => fun
  | [d1, d2] => { results := [.lit (.bool true)], args := [d1, d2] }
  | _ => none }
def prefixBackRow : OpenClaim := { program := "ytpmlhlefhmgpfaa", sum := "30b891939021ade83aabc6378dcb8db435ccbe93754e77b92aee08e55df31e4f", func := "samovar/samovarlaw05.PrefixBack", spec := "prefixBack", plainKeys := false, apart := false }
def PrefixBackSaid : Prop := prefixBackRow.holds Try.pinned (OpenSpec.ofChange prefixBackSpec)

/-- ITS FALSE NEIGHBOUR: 'it returns false'. Refute it at one input. -/
def prefixBackWrong : ChangeSpec := { name := "prefixBack", fn := fun _ => fun
  | [d1, d2] => { results := [.lit (.bool false)], args := [d1, d2] }
  | _ => none }
def PrefixBackWrongFalsely : Prop := prefixBackRow.holds Try.pinned (OpenSpec.ofChange prefixBackWrong)

/- THE SECOND FORM. 'bulk': how many values and letters a reading holds, each counted each time it is reached (what is shared counts as often as it is met; a slice's spare places count too). A statement '..UptoSaid' is the law's where the arguments, and the package variables that the reading takes, are together of bulk at most 1048576: NARROWER than '..Said'. Prove '..Said' where nothing that the law and all that it calls make is longer than what came in: it says more and counts as full. Else prove '..UptoSaid'. A law counts once. -/
mutual
def uptoBulk {H : Type} : DataW H → Nat
  | .lit (.string bytes) => bytes.length + 1
  | .lit _ => 1
  | .nil => 1
  | .ptr d => uptoBulk d + 1
  | .slice elems spare => uptoBulkAll elems + uptoBulkAll spare + 1
  | .agg parts => uptoBulkAll parts + 1
  | .iface _ d => uptoBulk d + 1
  | .map entries => uptoBulkEntries entries + 1
  | .held _ => 1
def uptoBulkAll {H : Type} : List (DataW H) → Nat
  | [] => 0
  | d :: r => uptoBulk d + uptoBulkAll r
def uptoBulkEntries {H : Type} : List (Lit × DataW H) → Nat
  | [] => 0
  | x :: r => uptoBulkEntry x + uptoBulkEntries r
def uptoBulkEntry {H : Type} : Lit × DataW H → Nat
  | (.string bytes, d) => bytes.length + uptoBulk d + 1
  | (_, d) => uptoBulk d + 1
 end
def uptoSmall : (H : Type) → List (DataW H) → Bool := fun _ ds => decide (uptoBulkAll ds ≤ 1048576)
def OpenSpec.upto (s : _root_.Go.ChangeSpec) : _root_.Go.OpenSpec := { _root_.Go.OpenSpec.ofChange s with cond := some uptoSmall }

/-- 'samovarlaw04.BitsWrites', WHERE WHAT IT READS IS OF BULK AT MOST 1048576: true; the input reads as it did. -/
def bitsWritesUptoRow : OpenClaim := { program := "ytpmlhlefhmgpfaa", sum := "30b891939021ade83aabc6378dcb8db435ccbe93754e77b92aee08e55df31e4f", func := "samovar/samovarlaw04.BitsWrites", spec := "bitsWrites", plainKeys := false, apart := false, narrowed := true }
def BitsWritesUptoSaid : Prop := bitsWritesUptoRow.holds Try.pinned (OpenSpec.upto bitsWritesSpec)

/-- 'samovarlaw04.BitsBack', WHERE WHAT IT READS IS OF BULK AT MOST 1048576: true; the input reads as it did. -/
def bitsBackUptoRow : OpenClaim := { program := "ytpmlhlefhmgpfaa", sum := "30b891939021ade83aabc6378dcb8db435ccbe93754e77b92aee08e55df31e4f", func := "samovar/samovarlaw04.BitsBack", spec := "bitsBack", plainKeys := false, apart := false, narrowed := true }
def BitsBackUptoSaid : Prop := bitsBackUptoRow.holds Try.pinned (OpenSpec.upto bitsBackSpec)

/-- 'samovarlaw04.BitsReads', WHERE WHAT IT READS IS OF BULK AT MOST 1048576: true; the input reads as it did. -/
def bitsReadsUptoRow : OpenClaim := { program := "ytpmlhlefhmgpfaa", sum := "30b891939021ade83aabc6378dcb8db435ccbe93754e77b92aee08e55df31e4f", func := "samovar/samovarlaw04.BitsReads", spec := "bitsReads", plainKeys := false, apart := false, narrowed := true }
def BitsReadsUptoSaid : Prop := bitsReadsUptoRow.holds Try.pinned (OpenSpec.upto bitsReadsSpec)

/-- 'samovarlaw04.BitsNil', WHERE WHAT IT READS IS OF BULK AT MOST 1048576: true; the input reads as it did. -/
def bitsNilUptoRow : OpenClaim := { program := "ytpmlhlefhmgpfaa", sum := "30b891939021ade83aabc6378dcb8db435ccbe93754e77b92aee08e55df31e4f", func := "samovar/samovarlaw04.BitsNil", spec := "bitsNil", plainKeys := false, apart := false, narrowed := true }
def BitsNilUptoSaid : Prop := bitsNilUptoRow.holds Try.pinned (OpenSpec.upto bitsNilSpec)

/-- 'samovarlaw05.PrefixMakes', WHERE WHAT IT READS IS OF BULK AT MOST 1048576: true; the input reads as it did. -/
def prefixMakesUptoRow : OpenClaim := { program := "ytpmlhlefhmgpfaa", sum := "30b891939021ade83aabc6378dcb8db435ccbe93754e77b92aee08e55df31e4f", func := "samovar/samovarlaw05.PrefixMakes", spec := "prefixMakes", plainKeys := false, apart := false, narrowed := true }
def PrefixMakesUptoSaid : Prop := prefixMakesUptoRow.holds Try.pinned (OpenSpec.upto prefixMakesSpec)

/-- 'samovarlaw05.PrefixFree', WHERE WHAT IT READS IS OF BULK AT MOST 1048576: true; the input reads as it did. -/
def prefixFreeUptoRow : OpenClaim := { program := "ytpmlhlefhmgpfaa", sum := "30b891939021ade83aabc6378dcb8db435ccbe93754e77b92aee08e55df31e4f", func := "samovar/samovarlaw05.PrefixFree", spec := "prefixFree", plainKeys := false, apart := false, narrowed := true }
def PrefixFreeUptoSaid : Prop := prefixFreeUptoRow.holds Try.pinned (OpenSpec.upto prefixFreeSpec)

/-- 'samovarlaw05.PrefixNil', WHERE WHAT IT READS IS OF BULK AT MOST 1048576: true; the input reads as it did. -/
def prefixNilUptoRow : OpenClaim := { program := "ytpmlhlefhmgpfaa", sum := "30b891939021ade83aabc6378dcb8db435ccbe93754e77b92aee08e55df31e4f", func := "samovar/samovarlaw05.PrefixNil", spec := "prefixNil", plainKeys := false, apart := false, narrowed := true }
def PrefixNilUptoSaid : Prop := prefixNilUptoRow.holds Try.pinned (OpenSpec.upto prefixNilSpec)

/-- 'samovarlaw05.PrefixReads', WHERE WHAT IT READS IS OF BULK AT MOST 1048576: true; the input reads as it did. -/
def prefixReadsUptoRow : OpenClaim := { program := "ytpmlhlefhmgpfaa", sum := "30b891939021ade83aabc6378dcb8db435ccbe93754e77b92aee08e55df31e4f", func := "samovar/samovarlaw05.PrefixReads", spec := "prefixReads", plainKeys := false, apart := false, narrowed := true }
def PrefixReadsUptoSaid : Prop := prefixReadsUptoRow.holds Try.pinned (OpenSpec.upto prefixReadsSpec)

/-- 'samovarlaw05.PrefixBack', WHERE WHAT IT READS IS OF BULK AT MOST 1048576: true; the input reads as it did. -/
def prefixBackUptoRow : OpenClaim := { program := "ytpmlhlefhmgpfaa", sum := "30b891939021ade83aabc6378dcb8db435ccbe93754e77b92aee08e55df31e4f", func := "samovar/samovarlaw05.PrefixBack", spec := "prefixBack", plainKeys := false, apart := false, narrowed := true }
def PrefixBackUptoSaid : Prop := prefixBackUptoRow.holds Try.pinned (OpenSpec.upto prefixBackSpec)

end Rows
end Go.Proofs.Ytpmlhlefhmgpfaa
