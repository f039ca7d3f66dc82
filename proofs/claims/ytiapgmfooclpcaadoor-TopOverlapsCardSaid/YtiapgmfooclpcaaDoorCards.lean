/-
  DERIVED. GIVEN WITH THE SEED: THE CARDS: each row of YtiapgmfooclpcaaDoorRows.lean that lists a variable, with what it lists TIED to the program's text (the seventh form; the later family's looks); each row that meets fmt, with fmt's text TOLD by the authors' own Lean function (tested against real Go, not proved from fmt's source: count such statements apart). THE CARD IS WHAT COUNTS. Prove the row's statement (the work); the ties are given (YtiapgmfooclpcaaDoorTie.lean); close each card by the builder's one call (the guide's Derived/Test/ToyasCard.lean, 'card_holds'). Laid BY PROGRAM, IN A SANDBOX (cutbox-door.mjs). By AI agents, Wed Nov 11 2026. No macro, syntax, notation, axiom, sorry.
-/
import Derived.Test.YtiapgmfooclpcaaDoorRows
import GoSem.ClaimSeven
namespace Go.Proofs.YtiapgmfooclpcaaDoor
namespace Rows

/-- THE TIED CARD OF 'samovartop.TopDisagree'. -/
def topDisagreeCard : Claim7 := { stood := { row := topDisagreeRow, standIns := [], harness := (true, "2c7b0096dc66b73c719c0a72a31da2e80c869b136431ccc6f0b69c0723cf54ba"), looks := false }, kinds := [], alts := [], laidByText := true, laidKinds := [.data, .pinned], laidTests := true, laidLooks := .later }
def TopDisagreeCardSaid : Prop := Claim7.holds Tryd.pinned (.plain (OpenSpec.ofChange topDisagreeSpec)) topDisagreeCard

/-- THE TIED CARD OF 'samovartop.TopOverlaps'. -/
def topOverlapsCard : Claim7 := { stood := { row := topOverlapsRow, standIns := [], harness := (true, "2c7b0096dc66b73c719c0a72a31da2e80c869b136431ccc6f0b69c0723cf54ba"), looks := false }, kinds := [], alts := [], laidByText := true, laidKinds := [.data, .pinned], laidTests := true, laidLooks := .later }
def TopOverlapsCardSaid : Prop := Claim7.holds Tryd.pinned (.plain (OpenSpec.ofChange topOverlapsSpec)) topOverlapsCard

/-- THE SECOND FORM's CARD OF 'samovartop.TopDisagree'. -/
def topDisagreeUptoCard : Claim7 := { stood := { row := topDisagreeUptoRow, standIns := [], harness := (true, "2c7b0096dc66b73c719c0a72a31da2e80c869b136431ccc6f0b69c0723cf54ba"), looks := false }, kinds := [], alts := [], laidByText := true, laidKinds := [.data, .pinned], laidTests := true, laidLooks := .later }
def TopDisagreeUptoCardSaid : Prop := Claim7.holds Tryd.pinned (.plain (OpenSpec.upto topDisagreeSpec)) topDisagreeUptoCard

/-- THE SECOND FORM's CARD OF 'samovartop.TopOverlaps'. -/
def topOverlapsUptoCard : Claim7 := { stood := { row := topOverlapsUptoRow, standIns := [], harness := (true, "2c7b0096dc66b73c719c0a72a31da2e80c869b136431ccc6f0b69c0723cf54ba"), looks := false }, kinds := [], alts := [], laidByText := true, laidKinds := [.data, .pinned], laidTests := true, laidLooks := .later }
def TopOverlapsUptoCardSaid : Prop := Claim7.holds Tryd.pinned (.plain (OpenSpec.upto topOverlapsSpec)) topOverlapsUptoCard
end Rows
end Go.Proofs.YtiapgmfooclpcaaDoor
