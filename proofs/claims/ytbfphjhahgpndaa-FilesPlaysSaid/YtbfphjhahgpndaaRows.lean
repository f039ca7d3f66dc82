/-
  No cell of these rows narrows 'for every input' (looked for: loops, veiled, ifaces, maps, wideKeys, modest, calm, conditions, laid).
  DERIVED. THE GIVEN ROWS OF THIS SEAT. 4 by the template 'for every input the law returns true; each argument reads behind the call as it read before'; 0 by the template 'total and deterministic' (their statements: YtbfphjhahgpndaaTotals.lean).
  GIVEN WITH THE SEED: the statements are not yours to turn. If you find one false, say at which input.
  Laid BY PROGRAM, IN A SANDBOX (cutbox-rows.mjs): the forced cells as the released guide's own fill.sh prints them over the translation af7cb01e47e1f36e… (all of the seat's roots in one cut). By AI agents, Wed Nov 11 2026. No macro, syntax, notation, axiom, sorry.
-/
import Derived.Test.YtbfphjhahgpndaaChecked
import GoSem.Claim
import GoSem.ClaimJoined
import GoSem.ClaimMapViews
import Derived.JoinedTies
import Derived.KernelRfl
namespace Go.Proofs.Ytbfphjhahgpndaa
/- THE CELL 'sum', in the pinned program and in every row, IS THE sha256 OF THE DUMP (.gsa) THAT YtbfphjhahgpndaaProg.lean LOADS. Nothing in Lean hashes anything: it is a label: what it is worth is what the hold of that sum in a sandbox is worth. -/
noncomputable def Try.pinned : Pinned := { name := "ytbfphjhahgpndaa", sum := "af7cb01e47e1f36eefb069f61bfd1af02a6338e285a6a4dc896be616e9da7bb5", checked := Try.checked }
namespace Rows
def none {H : Type} : Left H := { results := [], args := [] }

/-- 'samovarlaw08.FilesParts': WHATEVER THE INPUT: true; the input reads as it did. -/
def filesPartsSpec : ChangeSpec := { name := "filesParts", fn := fun _ => fun
  | [d1, d2, d3, d4] => { results := [.lit (.bool true)], args := [d1, d2, d3, d4] }
  | _ => none }
def filesPartsRow : OpenClaim := { program := "ytbfphjhahgpndaa", sum := "af7cb01e47e1f36eefb069f61bfd1af02a6338e285a6a4dc896be616e9da7bb5", func := "samovar/samovarlaw08.FilesParts", spec := "filesParts", inPlace := ["internal/bytealg.IndexByteString"], apart := false }
def FilesPartsSaid : Prop := filesPartsRow.holds Try.pinned (OpenSpec.ofChange filesPartsSpec)

/-- ITS FALSE NEIGHBOUR: 'it returns false'. Refute it at one input. -/
def filesPartsWrong : ChangeSpec := { name := "filesParts", fn := fun _ => fun
  | [d1, d2, d3, d4] => { results := [.lit (.bool false)], args := [d1, d2, d3, d4] }
  | _ => none }
def FilesPartsWrongFalsely : Prop := filesPartsRow.holds Try.pinned (OpenSpec.ofChange filesPartsWrong)

/-- 'samovarlaw08.FilesFails': WHATEVER THE INPUT: true; the input reads as it did. -/
def filesFailsSpec : ChangeSpec := { name := "filesFails", fn := fun _ => fun
  | [d1, d2] => { results := [.lit (.bool true)], args := [d1, d2] }
  | _ => none }
def filesFailsRow : OpenClaim := { program := "ytbfphjhahgpndaa", sum := "af7cb01e47e1f36eefb069f61bfd1af02a6338e285a6a4dc896be616e9da7bb5", func := "samovar/samovarlaw08.FilesFails", spec := "filesFails", inPlace := ["internal/bytealg.IndexByteString"], apart := false }
def FilesFailsSaid : Prop := filesFailsRow.holds Try.pinned (OpenSpec.ofChange filesFailsSpec)

/-- ITS FALSE NEIGHBOUR: 'it returns false'. Refute it at one input. -/
def filesFailsWrong : ChangeSpec := { name := "filesFails", fn := fun _ => fun
  | [d1, d2] => { results := [.lit (.bool false)], args := [d1, d2] }
  | _ => none }
def FilesFailsWrongFalsely : Prop := filesFailsRow.holds Try.pinned (OpenSpec.ofChange filesFailsWrong)

/-- 'samovarlaw08.FilesPlays': WHATEVER THE INPUT: true; the input reads as it did. -/
def filesPlaysSpec : ChangeSpec := { name := "filesPlays", fn := fun _ => fun
  | [d] => { results := [.lit (.bool true)], args := [d] }
  | _ => none }
def filesPlaysRow : OpenClaim := { program := "ytbfphjhahgpndaa", sum := "af7cb01e47e1f36eefb069f61bfd1af02a6338e285a6a4dc896be616e9da7bb5", func := "samovar/samovarlaw08.FilesPlays", spec := "filesPlays", inPlace := ["internal/bytealg.IndexByteString"], unfollowed := true, recurses := true, apart := false }
def FilesPlaysSaid : Prop := filesPlaysRow.holds Try.pinned (OpenSpec.ofChange filesPlaysSpec)

/-- ITS FALSE NEIGHBOUR: 'it returns false'. Refute it at one input. -/
def filesPlaysWrong : ChangeSpec := { name := "filesPlays", fn := fun _ => fun
  | [d] => { results := [.lit (.bool false)], args := [d] }
  | _ => none }
def FilesPlaysWrongFalsely : Prop := filesPlaysRow.holds Try.pinned (OpenSpec.ofChange filesPlaysWrong)

/-- 'samovarlaw08.FilesNil': WHATEVER THE INPUT: true; the input reads as it did. -/
def filesNilSpec : ChangeSpec := { name := "filesNil", fn := fun _ => fun
  | [d1, d2, d3] => { results := [.lit (.bool true)], args := [d1, d2, d3] }
  | _ => none }
def filesNilRow : OpenClaim := { program := "ytbfphjhahgpndaa", sum := "af7cb01e47e1f36eefb069f61bfd1af02a6338e285a6a4dc896be616e9da7bb5", func := "samovar/samovarlaw08.FilesNil", spec := "filesNil", inPlace := ["internal/bytealg.IndexByteString"], unfollowed := true, recurses := true, apart := false }
def FilesNilSaid : Prop := filesNilRow.holds Try.pinned (OpenSpec.ofChange filesNilSpec)

/-- ITS FALSE NEIGHBOUR: 'it returns false'. Refute it at one input. -/
def filesNilWrong : ChangeSpec := { name := "filesNil", fn := fun _ => fun
  | [d1, d2, d3] => { results := [.lit (.bool false)], args := [d1, d2, d3] }
  | _ => none }
def FilesNilWrongFalsely : Prop := filesNilRow.holds Try.pinned (OpenSpec.ofChange filesNilWrong)

/- THE SECOND FORM. 'bulk': how many values and letters a reading holds, each counted each time it is reached (what is shared counts as often as it is met; a slice's spare places count too). A statement '..UptoSaid' is the law's where the arguments, and the package variables that the reading takes, are together of bulk at most 1048576: NARROWER than '..Said'. Prove '..Said' where nothing that the law and all that it calls make is longer than what came in: it says more and counts as full. Else prove '..UptoSaid'. A law counts once. -/
mutual
def uptoBulk {H : Type} : DataW H → Nat
  | .lit (.string bytes) => bytes.length + 1
  | .lit _ => 1
  | .nil => 1
  | .ptr d => uptoBulk d + 1
  | .slice elems spare => uptoBulkAll elems + uptoBulkAll spare + 1
  | .agg parts => uptoBulkAll parts + 1
  | .iface _ d => uptoBulk d + 1
  | .map entries => uptoBulkEntries entries + 1
  | .held _ => 1
def uptoBulkAll {H : Type} : List (DataW H) → Nat
  | [] => 0
  | d :: r => uptoBulk d + uptoBulkAll r
def uptoBulkEntries {H : Type} : List (Lit × DataW H) → Nat
  | [] => 0
  | x :: r => uptoBulkEntry x + uptoBulkEntries r
def uptoBulkEntry {H : Type} : Lit × DataW H → Nat
  | (.string bytes, d) => bytes.length + uptoBulk d + 1
  | (_, d) => uptoBulk d + 1
 end
def uptoSmall : (H : Type) → List (DataW H) → Bool := fun _ ds => decide (uptoBulkAll ds ≤ 1048576)
def OpenSpec.upto (s : _root_.Go.ChangeSpec) : _root_.Go.OpenSpec := { _root_.Go.OpenSpec.ofChange s with cond := some uptoSmall }

/-- 'samovarlaw08.FilesParts', WHERE WHAT IT READS IS OF BULK AT MOST 1048576: true; the input reads as it did. -/
def filesPartsUptoRow : OpenClaim := { program := "ytbfphjhahgpndaa", sum := "af7cb01e47e1f36eefb069f61bfd1af02a6338e285a6a4dc896be616e9da7bb5", func := "samovar/samovarlaw08.FilesParts", spec := "filesParts", inPlace := ["internal/bytealg.IndexByteString"], apart := false, narrowed := true }
def FilesPartsUptoSaid : Prop := filesPartsUptoRow.holds Try.pinned (OpenSpec.upto filesPartsSpec)

/-- 'samovarlaw08.FilesFails', WHERE WHAT IT READS IS OF BULK AT MOST 1048576: true; the input reads as it did. -/
def filesFailsUptoRow : OpenClaim := { program := "ytbfphjhahgpndaa", sum := "af7cb01e47e1f36eefb069f61bfd1af02a6338e285a6a4dc896be616e9da7bb5", func := "samovar/samovarlaw08.FilesFails", spec := "filesFails", inPlace := ["internal/bytealg.IndexByteString"], apart := false, narrowed := true }
def FilesFailsUptoSaid : Prop := filesFailsUptoRow.holds Try.pinned (OpenSpec.upto filesFailsSpec)

/-- 'samovarlaw08.FilesPlays', WHERE WHAT IT READS IS OF BULK AT MOST 1048576: true; the input reads as it did. -/
def filesPlaysUptoRow : OpenClaim := { program := "ytbfphjhahgpndaa", sum := "af7cb01e47e1f36eefb069f61bfd1af02a6338e285a6a4dc896be616e9da7bb5", func := "samovar/samovarlaw08.FilesPlays", spec := "filesPlays", inPlace := ["internal/bytealg.IndexByteString"], unfollowed := true, recurses := true, apart := false, narrowed := true }
def FilesPlaysUptoSaid : Prop := filesPlaysUptoRow.holds Try.pinned (OpenSpec.upto filesPlaysSpec)

/-- 'samovarlaw08.FilesNil', WHERE WHAT IT READS IS OF BULK AT MOST 1048576: true; the input reads as it did. -/
def filesNilUptoRow : OpenClaim := { program := "ytbfphjhahgpndaa", sum := "af7cb01e47e1f36eefb069f61bfd1af02a6338e285a6a4dc896be616e9da7bb5", func := "samovar/samovarlaw08.FilesNil", spec := "filesNil", inPlace := ["internal/bytealg.IndexByteString"], unfollowed := true, recurses := true, apart := false, narrowed := true }
def FilesNilUptoSaid : Prop := filesNilUptoRow.holds Try.pinned (OpenSpec.upto filesNilSpec)

end Rows
end Go.Proofs.Ytbfphjhahgpndaa
