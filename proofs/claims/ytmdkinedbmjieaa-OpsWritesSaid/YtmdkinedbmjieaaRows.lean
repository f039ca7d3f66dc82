/-
  No cell of these rows narrows 'for every input' (looked for: loops, veiled, ifaces, maps, wideKeys, modest, calm, conditions, laid).
  DERIVED. THE GIVEN ROWS OF THIS SEAT. 5 by the template 'for every input the law returns true; each argument reads behind the call as it read before'; 0 by the template 'total and deterministic' (their statements: YtmdkinedbmjieaaTotals.lean).
  GIVEN WITH THE SEED: the statements are not yours to turn. If you find one false, say at which input.
  Laid BY PROGRAM, IN A SANDBOX (cutbox-rows.mjs): the forced cells as the released guide's own fill.sh prints them over the translation 0e8408182598dd2b… (all of the seat's roots in one cut). By AI agents, Wed Nov 11 2026. No macro, syntax, notation, axiom, sorry.
-/
import Derived.Test.YtmdkinedbmjieaaChecked
import GoSem.Claim
import GoSem.ClaimJoined
import GoSem.ClaimMapViews
import Derived.JoinedTies
import Derived.KernelRfl
namespace Go.Proofs.Ytmdkinedbmjieaa
/- THE CELL 'sum', in the pinned program and in every row, IS THE sha256 OF THE DUMP (.gsa) THAT YtmdkinedbmjieaaProg.lean LOADS. Nothing in Lean hashes anything: it is a label: what it is worth is what the hold of that sum in a sandbox is worth. -/
noncomputable def Try.pinned : Pinned := { name := "ytmdkinedbmjieaa", sum := "0e8408182598dd2bc29df0ed7ea434efcdfb1e472fb4aba7c22b24a91a5b5c7e", checked := Try.checked }
namespace Rows
def none {H : Type} : Left H := { results := [], args := [] }

/-- 'samovarlaw16.OpsReads': WHATEVER THE INPUT: true; the input reads as it did. -/
def opsReadsSpec : ChangeSpec := { name := "opsReads", fn := fun _ => fun
  | [d] => { results := [.lit (.bool true)], args := [d] }
  | _ => none }
def opsReadsRow : OpenClaim := { program := "ytmdkinedbmjieaa", sum := "0e8408182598dd2bc29df0ed7ea434efcdfb1e472fb4aba7c22b24a91a5b5c7e", func := "samovar/samovarlaw16.OpsReads", spec := "opsReads", unfollowed := true, recurses := true, apart := false }
def OpsReadsSaid : Prop := opsReadsRow.holds Try.pinned (OpenSpec.ofChange opsReadsSpec)

/-- ITS FALSE NEIGHBOUR: 'it returns false'. Refute it at one input. -/
def opsReadsWrong : ChangeSpec := { name := "opsReads", fn := fun _ => fun
  | [d] => { results := [.lit (.bool false)], args := [d] }
  | _ => none }
def OpsReadsWrongFalsely : Prop := opsReadsRow.holds Try.pinned (OpenSpec.ofChange opsReadsWrong)

/-- 'samovarlaw16.OpsWrites': WHATEVER THE INPUT: true; the input reads as it did. -/
def opsWritesSpec : ChangeSpec := { name := "opsWrites", fn := fun _ => fun
  | [d] => { results := [.lit (.bool true)], args := [d] }
  | _ => none }
def opsWritesRow : OpenClaim := { program := "ytmdkinedbmjieaa", sum := "0e8408182598dd2bc29df0ed7ea434efcdfb1e472fb4aba7c22b24a91a5b5c7e", func := "samovar/samovarlaw16.OpsWrites", spec := "opsWrites", unfollowed := true, recurses := true, apart := false }
def OpsWritesSaid : Prop := opsWritesRow.holds Try.pinned (OpenSpec.ofChange opsWritesSpec)

/-- ITS FALSE NEIGHBOUR: 'it returns false'. Refute it at one input. -/
def opsWritesWrong : ChangeSpec := { name := "opsWrites", fn := fun _ => fun
  | [d] => { results := [.lit (.bool false)], args := [d] }
  | _ => none }
def OpsWritesWrongFalsely : Prop := opsWritesRow.holds Try.pinned (OpenSpec.ofChange opsWritesWrong)

/-- 'samovarlaw16.OpsBack': WHATEVER THE INPUT: true; the input reads as it did. -/
def opsBackSpec : ChangeSpec := { name := "opsBack", fn := fun _ => fun
  | [d1, d2] => { results := [.lit (.bool true)], args := [d1, d2] }
  | _ => none }
def opsBackRow : OpenClaim := { program := "ytmdkinedbmjieaa", sum := "0e8408182598dd2bc29df0ed7ea434efcdfb1e472fb4aba7c22b24a91a5b5c7e", func := "samovar/samovarlaw16.OpsBack", spec := "opsBack", unfollowed := true, recurses := true, apart := false }
def OpsBackSaid : Prop := opsBackRow.holds Try.pinned (OpenSpec.ofChange opsBackSpec)

/-- ITS FALSE NEIGHBOUR: 'it returns false'. Refute it at one input. -/
def opsBackWrong : ChangeSpec := { name := "opsBack", fn := fun _ => fun
  | [d1, d2] => { results := [.lit (.bool false)], args := [d1, d2] }
  | _ => none }
def OpsBackWrongFalsely : Prop := opsBackRow.holds Try.pinned (OpenSpec.ofChange opsBackWrong)

/-- 'samovarlaw16.OpsRows': WHATEVER THE INPUT: true; the input reads as it did. -/
def opsRowsSpec : ChangeSpec := { name := "opsRows", fn := fun _ => fun
  | [d1, d2] => { results := [.lit (.bool true)], args := [d1, d2] }
  | _ => none }
def opsRowsRow : OpenClaim := { program := "ytmdkinedbmjieaa", sum := "0e8408182598dd2bc29df0ed7ea434efcdfb1e472fb4aba7c22b24a91a5b5c7e", func := "samovar/samovarlaw16.OpsRows", spec := "opsRows", unfollowed := true, recurses := true, apart := false }
def OpsRowsSaid : Prop := opsRowsRow.holds Try.pinned (OpenSpec.ofChange opsRowsSpec)

/-- ITS FALSE NEIGHBOUR: 'it returns false'. Refute it at one input. -/
def opsRowsWrong : ChangeSpec := { name := "opsRows", fn := fun _ => fun
  | [d1, d2] => { results := [.lit (.bool false)], args := [d1, d2] }
  | _ => none }
def OpsRowsWrongFalsely : Prop := opsRowsRow.holds Try.pinned (OpenSpec.ofChange opsRowsWrong)

/-- 'samovarlaw16.OpsJoins': WHATEVER THE INPUT: true; the input reads as it did. -/
def opsJoinsSpec : ChangeSpec := { name := "opsJoins", fn := fun _ => fun
  | [d1, d2] => { results := [.lit (.bool true)], args := [d1, d2] }
  | _ => none }
def opsJoinsRow : OpenClaim := { program := "ytmdkinedbmjieaa", sum := "0e8408182598dd2bc29df0ed7ea434efcdfb1e472fb4aba7c22b24a91a5b5c7e", func := "samovar/samovarlaw16.OpsJoins", spec := "opsJoins", unfollowed := true, recurses := true, apart := false }
def OpsJoinsSaid : Prop := opsJoinsRow.holds Try.pinned (OpenSpec.ofChange opsJoinsSpec)

/-- ITS FALSE NEIGHBOUR: 'it returns false'. Refute it at one input. -/
def opsJoinsWrong : ChangeSpec := { name := "opsJoins", fn := fun _ => fun
  | [d1, d2] => { results := [.lit (.bool false)], args := [d1, d2] }
  | _ => none }
def OpsJoinsWrongFalsely : Prop := opsJoinsRow.holds Try.pinned (OpenSpec.ofChange opsJoinsWrong)

/- THE SECOND FORM. 'bulk': how many values and letters a reading holds, each counted each time it is reached (what is shared counts as often as it is met; a slice's spare places count too). A statement '..UptoSaid' is the law's where the arguments, and the package variables that the reading takes, are together of bulk at most 1048576: NARROWER than '..Said'. Prove '..Said' where nothing that the law and all that it calls make is longer than what came in: it says more and counts as full. Else prove '..UptoSaid'. A law counts once. -/
mutual
def uptoBulk {H : Type} : DataW H → Nat
  | .lit (.string bytes) => bytes.length + 1
  | .lit _ => 1
  | .nil => 1
  | .ptr d => uptoBulk d + 1
  | .slice elems spare => uptoBulkAll elems + uptoBulkAll spare + 1
  | .agg parts => uptoBulkAll parts + 1
  | .iface _ d => uptoBulk d + 1
  | .map entries => uptoBulkEntries entries + 1
  | .held _ => 1
def uptoBulkAll {H : Type} : List (DataW H) → Nat
  | [] => 0
  | d :: r => uptoBulk d + uptoBulkAll r
def uptoBulkEntries {H : Type} : List (Lit × DataW H) → Nat
  | [] => 0
  | x :: r => uptoBulkEntry x + uptoBulkEntries r
def uptoBulkEntry {H : Type} : Lit × DataW H → Nat
  | (.string bytes, d) => bytes.length + uptoBulk d + 1
  | (_, d) => uptoBulk d + 1
 end
def uptoSmall : (H : Type) → List (DataW H) → Bool := fun _ ds => decide (uptoBulkAll ds ≤ 1048576)
def OpenSpec.upto (s : _root_.Go.ChangeSpec) : _root_.Go.OpenSpec := { _root_.Go.OpenSpec.ofChange s with cond := some uptoSmall }

/-- 'samovarlaw16.OpsReads', WHERE WHAT IT READS IS OF BULK AT MOST 1048576: true; the input reads as it did. -/
def opsReadsUptoRow : OpenClaim := { program := "ytmdkinedbmjieaa", sum := "0e8408182598dd2bc29df0ed7ea434efcdfb1e472fb4aba7c22b24a91a5b5c7e", func := "samovar/samovarlaw16.OpsReads", spec := "opsReads", unfollowed := true, recurses := true, apart := false, narrowed := true }
def OpsReadsUptoSaid : Prop := opsReadsUptoRow.holds Try.pinned (OpenSpec.upto opsReadsSpec)

/-- 'samovarlaw16.OpsWrites', WHERE WHAT IT READS IS OF BULK AT MOST 1048576: true; the input reads as it did. -/
def opsWritesUptoRow : OpenClaim := { program := "ytmdkinedbmjieaa", sum := "0e8408182598dd2bc29df0ed7ea434efcdfb1e472fb4aba7c22b24a91a5b5c7e", func := "samovar/samovarlaw16.OpsWrites", spec := "opsWrites", unfollowed := true, recurses := true, apart := false, narrowed := true }
def OpsWritesUptoSaid : Prop := opsWritesUptoRow.holds Try.pinned (OpenSpec.upto opsWritesSpec)

/-- 'samovarlaw16.OpsBack', WHERE WHAT IT READS IS OF BULK AT MOST 1048576: true; the input reads as it did. -/
def opsBackUptoRow : OpenClaim := { program := "ytmdkinedbmjieaa", sum := "0e8408182598dd2bc29df0ed7ea434efcdfb1e472fb4aba7c22b24a91a5b5c7e", func := "samovar/samovarlaw16.OpsBack", spec := "opsBack", unfollowed := true, recurses := true, apart := false, narrowed := true }
def OpsBackUptoSaid : Prop := opsBackUptoRow.holds Try.pinned (OpenSpec.upto opsBackSpec)

/-- 'samovarlaw16.OpsRows', WHERE WHAT IT READS IS OF BULK AT MOST 1048576: true; the input reads as it did. -/
def opsRowsUptoRow : OpenClaim := { program := "ytmdkinedbmjieaa", sum := "0e8408182598dd2bc29df0ed7ea434efcdfb1e472fb4aba7c22b24a91a5b5c7e", func := "samovar/samovarlaw16.OpsRows", spec := "opsRows", unfollowed := true, recurses := true, apart := false, narrowed := true }
def OpsRowsUptoSaid : Prop := opsRowsUptoRow.holds Try.pinned (OpenSpec.upto opsRowsSpec)

/-- 'samovarlaw16.OpsJoins', WHERE WHAT IT READS IS OF BULK AT MOST 1048576: true; the input reads as it did. -/
def opsJoinsUptoRow : OpenClaim := { program := "ytmdkinedbmjieaa", sum := "0e8408182598dd2bc29df0ed7ea434efcdfb1e472fb4aba7c22b24a91a5b5c7e", func := "samovar/samovarlaw16.OpsJoins", spec := "opsJoins", unfollowed := true, recurses := true, apart := false, narrowed := true }
def OpsJoinsUptoSaid : Prop := opsJoinsUptoRow.holds Try.pinned (OpenSpec.upto opsJoinsSpec)

end Rows
end Go.Proofs.Ytmdkinedbmjieaa
