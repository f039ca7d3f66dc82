/-
  No cell of these rows narrows 'for every input' (looked for: loops, veiled, ifaces, maps, wideKeys, modest, calm, conditions, laid).
  DERIVED. THE GIVEN ROWS OF THIS SEAT. 4 by the template 'for every input the law returns true; each argument reads behind the call as it read before'; 0 by the template 'total and deterministic' (their statements: YtchbidckckmobaaTotals.lean).
  GIVEN WITH THE SEED: the statements are not yours to turn. If you find one false, say at which input.
  Laid BY PROGRAM, IN A SANDBOX (cutbox-rows.mjs): the forced cells as the released guide's own fill.sh prints them over the translation 3bcd7566513cab78… (all of the seat's roots in one cut). By AI agents, Wed Nov 11 2026. No macro, syntax, notation, axiom, sorry.
-/
import Derived.Test.YtchbidckckmobaaChecked
import GoSem.Claim
import GoSem.ClaimJoined
import GoSem.ClaimMapViews
import Derived.JoinedTies
import Derived.KernelRfl
namespace Go.Proofs.Ytchbidckckmobaa
/- THE CELL 'sum', in the pinned program and in every row, IS THE sha256 OF THE DUMP (.gsa) THAT YtchbidckckmobaaProg.lean LOADS. Nothing in Lean hashes anything: it is a label: what it is worth is what the hold of that sum in a sandbox is worth. -/
noncomputable def Try.pinned : Pinned := { name := "ytchbidckckmobaa", sum := "3bcd7566513cab785e71a0b7c8a8e80dee04eaa758bd99ff25dd37ee22a7559c", checked := Try.checked }
namespace Rows
def none {H : Type} : Left H := { results := [], args := [] }

/-- 'samovarlaw19.ArenaHeads': WHATEVER THE INPUT: true; the input reads as it did. -/
def arenaHeadsSpec : ChangeSpec := { name := "arenaHeads", fn := fun _ => fun
  | [d1, d2, d3, d4, d5] => { results := [.lit (.bool true)], args := [d1, d2, d3, d4, d5] }
  | _ => none }
def arenaHeadsRow : OpenClaim := { program := "ytchbidckckmobaa", sum := "3bcd7566513cab785e71a0b7c8a8e80dee04eaa758bd99ff25dd37ee22a7559c", func := "samovar/samovarlaw19.ArenaHeads", spec := "arenaHeads", apart := false }
def ArenaHeadsSaid : Prop := arenaHeadsRow.holds Try.pinned (OpenSpec.ofChange arenaHeadsSpec)

/-- ITS FALSE NEIGHBOUR: 'it returns false'. Refute it at one input. -/
def arenaHeadsWrong : ChangeSpec := { name := "arenaHeads", fn := fun _ => fun
  | [d1, d2, d3, d4, d5] => { results := [.lit (.bool false)], args := [d1, d2, d3, d4, d5] }
  | _ => none }
def ArenaHeadsWrongFalsely : Prop := arenaHeadsRow.holds Try.pinned (OpenSpec.ofChange arenaHeadsWrong)

/-- 'samovarlaw19.ArenaBack': WHATEVER THE INPUT: true; the input reads as it did. -/
def arenaBackSpec : ChangeSpec := { name := "arenaBack", fn := fun _ => fun
  | [d1, d2, d3, d4, d5] => { results := [.lit (.bool true)], args := [d1, d2, d3, d4, d5] }
  | _ => none }
def arenaBackRow : OpenClaim := { program := "ytchbidckckmobaa", sum := "3bcd7566513cab785e71a0b7c8a8e80dee04eaa758bd99ff25dd37ee22a7559c", func := "samovar/samovarlaw19.ArenaBack", spec := "arenaBack", apart := false }
def ArenaBackSaid : Prop := arenaBackRow.holds Try.pinned (OpenSpec.ofChange arenaBackSpec)

/-- ITS FALSE NEIGHBOUR: 'it returns false'. Refute it at one input. -/
def arenaBackWrong : ChangeSpec := { name := "arenaBack", fn := fun _ => fun
  | [d1, d2, d3, d4, d5] => { results := [.lit (.bool false)], args := [d1, d2, d3, d4, d5] }
  | _ => none }
def ArenaBackWrongFalsely : Prop := arenaBackRow.holds Try.pinned (OpenSpec.ofChange arenaBackWrong)

/-- 'samovarlaw19.ArenaBlocks': WHATEVER THE INPUT: true; the input reads as it did. -/
def arenaBlocksSpec : ChangeSpec := { name := "arenaBlocks", fn := fun _ => fun
  | [d1, d2] => { results := [.lit (.bool true)], args := [d1, d2] }
  | _ => none }
def arenaBlocksRow : OpenClaim := { program := "ytchbidckckmobaa", sum := "3bcd7566513cab785e71a0b7c8a8e80dee04eaa758bd99ff25dd37ee22a7559c", func := "samovar/samovarlaw19.ArenaBlocks", spec := "arenaBlocks", apart := false }
def ArenaBlocksSaid : Prop := arenaBlocksRow.holds Try.pinned (OpenSpec.ofChange arenaBlocksSpec)

/-- ITS FALSE NEIGHBOUR: 'it returns false'. Refute it at one input. -/
def arenaBlocksWrong : ChangeSpec := { name := "arenaBlocks", fn := fun _ => fun
  | [d1, d2] => { results := [.lit (.bool false)], args := [d1, d2] }
  | _ => none }
def ArenaBlocksWrongFalsely : Prop := arenaBlocksRow.holds Try.pinned (OpenSpec.ofChange arenaBlocksWrong)

/-- 'samovarlaw19.ArenaGrows': WHATEVER THE INPUT: true; the input reads as it did. -/
def arenaGrowsSpec : ChangeSpec := { name := "arenaGrows", fn := fun _ => fun
  | [d1, d2, d3, d4] => { results := [.lit (.bool true)], args := [d1, d2, d3, d4] }
  | _ => none }
def arenaGrowsRow : OpenClaim := { program := "ytchbidckckmobaa", sum := "3bcd7566513cab785e71a0b7c8a8e80dee04eaa758bd99ff25dd37ee22a7559c", func := "samovar/samovarlaw19.ArenaGrows", spec := "arenaGrows", apart := false }
def ArenaGrowsSaid : Prop := arenaGrowsRow.holds Try.pinned (OpenSpec.ofChange arenaGrowsSpec)

/-- ITS FALSE NEIGHBOUR: 'it returns false'. Refute it at one input. -/
def arenaGrowsWrong : ChangeSpec := { name := "arenaGrows", fn := fun _ => fun
  | [d1, d2, d3, d4] => { results := [.lit (.bool false)], args := [d1, d2, d3, d4] }
  | _ => none }
def ArenaGrowsWrongFalsely : Prop := arenaGrowsRow.holds Try.pinned (OpenSpec.ofChange arenaGrowsWrong)

/- THE SECOND FORM. 'bulk': how many values and letters a reading holds, each counted each time it is reached (what is shared counts as often as it is met; a slice's spare places count too). A statement '..UptoSaid' is the law's where the arguments, and the package variables that the reading takes, are together of bulk at most 1048576: NARROWER than '..Said'. Prove '..Said' where nothing that the law and all that it calls make is longer than what came in: it says more and counts as full. Else prove '..UptoSaid'. A law counts once. -/
mutual
def uptoBulk {H : Type} : DataW H → Nat
  | .lit (.string bytes) => bytes.length + 1
  | .lit _ => 1
  | .nil => 1
  | .ptr d => uptoBulk d + 1
  | .slice elems spare => uptoBulkAll elems + uptoBulkAll spare + 1
  | .agg parts => uptoBulkAll parts + 1
  | .iface _ d => uptoBulk d + 1
  | .map entries => uptoBulkEntries entries + 1
  | .held _ => 1
def uptoBulkAll {H : Type} : List (DataW H) → Nat
  | [] => 0
  | d :: r => uptoBulk d + uptoBulkAll r
def uptoBulkEntries {H : Type} : List (Lit × DataW H) → Nat
  | [] => 0
  | x :: r => uptoBulkEntry x + uptoBulkEntries r
def uptoBulkEntry {H : Type} : Lit × DataW H → Nat
  | (.string bytes, d) => bytes.length + uptoBulk d + 1
  | (_, d) => uptoBulk d + 1
 end
def uptoSmall : (H : Type) → List (DataW H) → Bool := fun _ ds => decide (uptoBulkAll ds ≤ 1048576)
def OpenSpec.upto (s : _root_.Go.ChangeSpec) : _root_.Go.OpenSpec := { _root_.Go.OpenSpec.ofChange s with cond := some uptoSmall }

/-- 'samovarlaw19.ArenaHeads', WHERE WHAT IT READS IS OF BULK AT MOST 1048576: true; the input reads as it did. -/
def arenaHeadsUptoRow : OpenClaim := { program := "ytchbidckckmobaa", sum := "3bcd7566513cab785e71a0b7c8a8e80dee04eaa758bd99ff25dd37ee22a7559c", func := "samovar/samovarlaw19.ArenaHeads", spec := "arenaHeads", apart := false, narrowed := true }
def ArenaHeadsUptoSaid : Prop := arenaHeadsUptoRow.holds Try.pinned (OpenSpec.upto arenaHeadsSpec)

/-- 'samovarlaw19.ArenaBack', WHERE WHAT IT READS IS OF BULK AT MOST 1048576: true; the input reads as it did. -/
def arenaBackUptoRow : OpenClaim := { program := "ytchbidckckmobaa", sum := "3bcd7566513cab785e71a0b7c8a8e80dee04eaa758bd99ff25dd37ee22a7559c", func := "samovar/samovarlaw19.ArenaBack", spec := "arenaBack", apart := false, narrowed := true }
def ArenaBackUptoSaid : Prop := arenaBackUptoRow.holds Try.pinned (OpenSpec.upto arenaBackSpec)

/-- 'samovarlaw19.ArenaBlocks', WHERE WHAT IT READS IS OF BULK AT MOST 1048576: true; the input reads as it did. -/
def arenaBlocksUptoRow : OpenClaim := { program := "ytchbidckckmobaa", sum := "3bcd7566513cab785e71a0b7c8a8e80dee04eaa758bd99ff25dd37ee22a7559c", func := "samovar/samovarlaw19.ArenaBlocks", spec := "arenaBlocks", apart := false, narrowed := true }
def ArenaBlocksUptoSaid : Prop := arenaBlocksUptoRow.holds Try.pinned (OpenSpec.upto arenaBlocksSpec)

/-- 'samovarlaw19.ArenaGrows', WHERE WHAT IT READS IS OF BULK AT MOST 1048576: true; the input reads as it did. -/
def arenaGrowsUptoRow : OpenClaim := { program := "ytchbidckckmobaa", sum := "3bcd7566513cab785e71a0b7c8a8e80dee04eaa758bd99ff25dd37ee22a7559c", func := "samovar/samovarlaw19.ArenaGrows", spec := "arenaGrows", apart := false, narrowed := true }
def ArenaGrowsUptoSaid : Prop := arenaGrowsUptoRow.holds Try.pinned (OpenSpec.upto arenaGrowsSpec)

end Rows
end Go.Proofs.Ytchbidckckmobaa
