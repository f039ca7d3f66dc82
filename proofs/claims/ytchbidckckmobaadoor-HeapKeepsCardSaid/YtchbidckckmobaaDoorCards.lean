/-
  DERIVED. GIVEN WITH THE SEED: THE CARDS: each row of YtchbidckckmobaaDoorRows.lean that lists a variable, with what it lists TIED to the program's text (the seventh form; the later family's looks); each row that meets fmt, with fmt's text TOLD by the authors' own Lean function (tested against real Go, not proved from fmt's source: count such statements apart). THE CARD IS WHAT COUNTS. Prove the row's statement (the work); the ties are given (YtchbidckckmobaaDoorTie.lean); close each card by the builder's one call (the guide's Derived/Test/ToyasCard.lean, 'card_holds'). Laid BY PROGRAM, IN A SANDBOX (cutbox-door.mjs). By AI agents, Wed Nov 11 2026. No macro, syntax, notation, axiom, sorry.
-/
import Derived.Test.YtchbidckckmobaaDoorRows
import GoSem.ClaimSeven
namespace Go.Proofs.YtchbidckckmobaaDoor
namespace Rows

/-- THE TIED CARD OF 'samovarlaw20.SlideMarks'. -/
def slideMarksCard : Claim7 := { stood := { row := slideMarksRow, standIns := [], harness := (true, "d0be065d193a3fa1b56c4b771d487460df22bb6101bcc3db90dac086316fe3a6"), looks := false }, kinds := [], alts := [], laidByText := true, laidKinds := [.data], laidTests := true, laidLooks := .later }
def SlideMarksCardSaid : Prop := Claim7.holds Tryd.pinned (.plain (OpenSpec.ofChange slideMarksSpec)) slideMarksCard

/-- THE TIED CARD OF 'samovarlaw20.SlideCollects'. -/
def slideCollectsCard : Claim7 := { stood := { row := slideCollectsRow, standIns := [], harness := (true, "d0be065d193a3fa1b56c4b771d487460df22bb6101bcc3db90dac086316fe3a6"), looks := false }, kinds := [], alts := [], laidByText := true, laidKinds := [.data], laidTests := true, laidLooks := .later }
def SlideCollectsCardSaid : Prop := Claim7.holds Tryd.pinned (.plain (OpenSpec.ofChange slideCollectsSpec)) slideCollectsCard

/-- THE TIED CARD OF 'samovarlaw20.SlideAgain'. -/
def slideAgainCard : Claim7 := { stood := { row := slideAgainRow, standIns := [], harness := (true, "d0be065d193a3fa1b56c4b771d487460df22bb6101bcc3db90dac086316fe3a6"), looks := false }, kinds := [], alts := [], laidByText := true, laidKinds := [.data], laidTests := true, laidLooks := .later }
def SlideAgainCardSaid : Prop := Claim7.holds Tryd.pinned (.plain (OpenSpec.ofChange slideAgainSpec)) slideAgainCard

/-- THE TIED CARD OF 'samovarlaw20.SlideReads'. -/
def slideReadsCard : Claim7 := { stood := { row := slideReadsRow, standIns := [], harness := (true, "d0be065d193a3fa1b56c4b771d487460df22bb6101bcc3db90dac086316fe3a6"), looks := false }, kinds := [], alts := [], laidByText := true, laidKinds := [.data], laidTests := true, laidLooks := .later }
def SlideReadsCardSaid : Prop := Claim7.holds Tryd.pinned (.plain (OpenSpec.ofChange slideReadsSpec)) slideReadsCard

/-- THE TIED CARD OF 'samovarlaw21.HeapKeeps'. -/
def heapKeepsCard : Claim7 := { stood := { row := heapKeepsRow, standIns := [], harness := (true, "d0be065d193a3fa1b56c4b771d487460df22bb6101bcc3db90dac086316fe3a6"), looks := false }, kinds := [], alts := [], laidByText := true, laidKinds := [.data], laidTests := true, laidLooks := .later }
def HeapKeepsCardSaid : Prop := Claim7.holds Tryd.pinned (.plain (OpenSpec.ofChange heapKeepsSpec)) heapKeepsCard

/-- THE TIED CARD OF 'samovarlaw21.HeapRoom'. -/
def heapRoomCard : Claim7 := { stood := { row := heapRoomRow, standIns := [], harness := (true, "d0be065d193a3fa1b56c4b771d487460df22bb6101bcc3db90dac086316fe3a6"), looks := false }, kinds := [], alts := [], laidByText := true, laidKinds := [.data], laidTests := true, laidLooks := .later }
def HeapRoomCardSaid : Prop := Claim7.holds Tryd.pinned (.plain (OpenSpec.ofChange heapRoomSpec)) heapRoomCard

/-- THE TIED CARD OF 'samovarlaw21.HeapCollects'. -/
def heapCollectsCard : Claim7 := { stood := { row := heapCollectsRow, standIns := [], harness := (true, "d0be065d193a3fa1b56c4b771d487460df22bb6101bcc3db90dac086316fe3a6"), looks := false }, kinds := [], alts := [], laidByText := true, laidKinds := [.data], laidTests := true, laidLooks := .later }
def HeapCollectsCardSaid : Prop := Claim7.holds Tryd.pinned (.plain (OpenSpec.ofChange heapCollectsSpec)) heapCollectsCard

/-- THE TIED CARD OF 'samovarlaw21.HeapPlays'. -/
def heapPlaysCard : Claim7 := { stood := { row := heapPlaysRow, standIns := [], harness := (true, "d0be065d193a3fa1b56c4b771d487460df22bb6101bcc3db90dac086316fe3a6"), looks := false }, kinds := [], alts := [], laidByText := true, laidKinds := [.data], laidTests := true, laidLooks := .later }
def HeapPlaysCardSaid : Prop := Claim7.holds Tryd.pinned (.plain (OpenSpec.ofChange heapPlaysSpec)) heapPlaysCard

/-- THE TIED CARD OF 'samovarlaw21.HeapNil'. -/
def heapNilCard : Claim7 := { stood := { row := heapNilRow, standIns := [], harness := (true, "d0be065d193a3fa1b56c4b771d487460df22bb6101bcc3db90dac086316fe3a6"), looks := false }, kinds := [], alts := [], laidByText := true, laidKinds := [.data], laidTests := true, laidLooks := .later }
def HeapNilCardSaid : Prop := Claim7.holds Tryd.pinned (.plain (OpenSpec.ofChange heapNilSpec)) heapNilCard

/-- THE TIED CARD OF 'samovarlaw24.NativeDigits'. -/
def nativeDigitsCard : Claim7 := { stood := { row := nativeDigitsRow, standIns := [], harness := (true, "d0be065d193a3fa1b56c4b771d487460df22bb6101bcc3db90dac086316fe3a6"), looks := false }, kinds := [], alts := [], laidByText := true, laidKinds := [.data, .data, .data], laidTests := true, laidLooks := .later }
def NativeDigitsCardSaid : Prop := Claim7.holds Tryd.pinned (.plain (OpenSpec.ofChange nativeDigitsSpec)) nativeDigitsCard

/-- THE TIED CARD OF 'samovarlaw24.NativeStrings'. -/
def nativeStringsCard : Claim7 := { stood := { row := nativeStringsRow, standIns := [], harness := (true, "d0be065d193a3fa1b56c4b771d487460df22bb6101bcc3db90dac086316fe3a6"), looks := false }, kinds := [], alts := [], laidByText := true, laidKinds := [.data, .data, .data], laidTests := true, laidLooks := .later }
def NativeStringsCardSaid : Prop := Claim7.holds Tryd.pinned (.plain (OpenSpec.ofChange nativeStringsSpec)) nativeStringsCard

/-- THE TIED CARD OF 'samovarlaw24.NativeCopies'. -/
def nativeCopiesCard : Claim7 := { stood := { row := nativeCopiesRow, standIns := [], harness := (true, "d0be065d193a3fa1b56c4b771d487460df22bb6101bcc3db90dac086316fe3a6"), looks := false }, kinds := [], alts := [], laidByText := true, laidKinds := [.data, .data, .data], laidTests := true, laidLooks := .later }
def NativeCopiesCardSaid : Prop := Claim7.holds Tryd.pinned (.plain (OpenSpec.ofChange nativeCopiesSpec)) nativeCopiesCard

/-- THE TIED CARD OF 'samovarlaw24.NativePlays'. -/
def nativePlaysCard : Claim7 := { stood := { row := nativePlaysRow, standIns := [], harness := (true, "d0be065d193a3fa1b56c4b771d487460df22bb6101bcc3db90dac086316fe3a6"), looks := false }, kinds := [], alts := [], laidByText := true, laidKinds := [.data, .data, .data], laidTests := true, laidLooks := .later }
def NativePlaysCardSaid : Prop := Claim7.holds Tryd.pinned (.plain (OpenSpec.ofChange nativePlaysSpec)) nativePlaysCard

/-- THE SECOND FORM's CARD OF 'samovarlaw20.SlideMarks'. -/
def slideMarksUptoCard : Claim7 := { stood := { row := slideMarksUptoRow, standIns := [], harness := (true, "d0be065d193a3fa1b56c4b771d487460df22bb6101bcc3db90dac086316fe3a6"), looks := false }, kinds := [], alts := [], laidByText := true, laidKinds := [.data], laidTests := true, laidLooks := .later }
def SlideMarksUptoCardSaid : Prop := Claim7.holds Tryd.pinned (.plain (OpenSpec.upto slideMarksSpec)) slideMarksUptoCard

/-- THE SECOND FORM's CARD OF 'samovarlaw20.SlideCollects'. -/
def slideCollectsUptoCard : Claim7 := { stood := { row := slideCollectsUptoRow, standIns := [], harness := (true, "d0be065d193a3fa1b56c4b771d487460df22bb6101bcc3db90dac086316fe3a6"), looks := false }, kinds := [], alts := [], laidByText := true, laidKinds := [.data], laidTests := true, laidLooks := .later }
def SlideCollectsUptoCardSaid : Prop := Claim7.holds Tryd.pinned (.plain (OpenSpec.upto slideCollectsSpec)) slideCollectsUptoCard

/-- THE SECOND FORM's CARD OF 'samovarlaw20.SlideAgain'. -/
def slideAgainUptoCard : Claim7 := { stood := { row := slideAgainUptoRow, standIns := [], harness := (true, "d0be065d193a3fa1b56c4b771d487460df22bb6101bcc3db90dac086316fe3a6"), looks := false }, kinds := [], alts := [], laidByText := true, laidKinds := [.data], laidTests := true, laidLooks := .later }
def SlideAgainUptoCardSaid : Prop := Claim7.holds Tryd.pinned (.plain (OpenSpec.upto slideAgainSpec)) slideAgainUptoCard

/-- THE SECOND FORM's CARD OF 'samovarlaw20.SlideReads'. -/
def slideReadsUptoCard : Claim7 := { stood := { row := slideReadsUptoRow, standIns := [], harness := (true, "d0be065d193a3fa1b56c4b771d487460df22bb6101bcc3db90dac086316fe3a6"), looks := false }, kinds := [], alts := [], laidByText := true, laidKinds := [.data], laidTests := true, laidLooks := .later }
def SlideReadsUptoCardSaid : Prop := Claim7.holds Tryd.pinned (.plain (OpenSpec.upto slideReadsSpec)) slideReadsUptoCard

/-- THE SECOND FORM's CARD OF 'samovarlaw21.HeapKeeps'. -/
def heapKeepsUptoCard : Claim7 := { stood := { row := heapKeepsUptoRow, standIns := [], harness := (true, "d0be065d193a3fa1b56c4b771d487460df22bb6101bcc3db90dac086316fe3a6"), looks := false }, kinds := [], alts := [], laidByText := true, laidKinds := [.data], laidTests := true, laidLooks := .later }
def HeapKeepsUptoCardSaid : Prop := Claim7.holds Tryd.pinned (.plain (OpenSpec.upto heapKeepsSpec)) heapKeepsUptoCard

/-- THE SECOND FORM's CARD OF 'samovarlaw21.HeapRoom'. -/
def heapRoomUptoCard : Claim7 := { stood := { row := heapRoomUptoRow, standIns := [], harness := (true, "d0be065d193a3fa1b56c4b771d487460df22bb6101bcc3db90dac086316fe3a6"), looks := false }, kinds := [], alts := [], laidByText := true, laidKinds := [.data], laidTests := true, laidLooks := .later }
def HeapRoomUptoCardSaid : Prop := Claim7.holds Tryd.pinned (.plain (OpenSpec.upto heapRoomSpec)) heapRoomUptoCard

/-- THE SECOND FORM's CARD OF 'samovarlaw21.HeapCollects'. -/
def heapCollectsUptoCard : Claim7 := { stood := { row := heapCollectsUptoRow, standIns := [], harness := (true, "d0be065d193a3fa1b56c4b771d487460df22bb6101bcc3db90dac086316fe3a6"), looks := false }, kinds := [], alts := [], laidByText := true, laidKinds := [.data], laidTests := true, laidLooks := .later }
def HeapCollectsUptoCardSaid : Prop := Claim7.holds Tryd.pinned (.plain (OpenSpec.upto heapCollectsSpec)) heapCollectsUptoCard

/-- THE SECOND FORM's CARD OF 'samovarlaw21.HeapPlays'. -/
def heapPlaysUptoCard : Claim7 := { stood := { row := heapPlaysUptoRow, standIns := [], harness := (true, "d0be065d193a3fa1b56c4b771d487460df22bb6101bcc3db90dac086316fe3a6"), looks := false }, kinds := [], alts := [], laidByText := true, laidKinds := [.data], laidTests := true, laidLooks := .later }
def HeapPlaysUptoCardSaid : Prop := Claim7.holds Tryd.pinned (.plain (OpenSpec.upto heapPlaysSpec)) heapPlaysUptoCard

/-- THE SECOND FORM's CARD OF 'samovarlaw21.HeapNil'. -/
def heapNilUptoCard : Claim7 := { stood := { row := heapNilUptoRow, standIns := [], harness := (true, "d0be065d193a3fa1b56c4b771d487460df22bb6101bcc3db90dac086316fe3a6"), looks := false }, kinds := [], alts := [], laidByText := true, laidKinds := [.data], laidTests := true, laidLooks := .later }
def HeapNilUptoCardSaid : Prop := Claim7.holds Tryd.pinned (.plain (OpenSpec.upto heapNilSpec)) heapNilUptoCard

/-- THE SECOND FORM's CARD OF 'samovarlaw24.NativeDigits'. -/
def nativeDigitsUptoCard : Claim7 := { stood := { row := nativeDigitsUptoRow, standIns := [], harness := (true, "d0be065d193a3fa1b56c4b771d487460df22bb6101bcc3db90dac086316fe3a6"), looks := false }, kinds := [], alts := [], laidByText := true, laidKinds := [.data, .data, .data], laidTests := true, laidLooks := .later }
def NativeDigitsUptoCardSaid : Prop := Claim7.holds Tryd.pinned (.plain (OpenSpec.upto nativeDigitsSpec)) nativeDigitsUptoCard

/-- THE SECOND FORM's CARD OF 'samovarlaw24.NativeStrings'. -/
def nativeStringsUptoCard : Claim7 := { stood := { row := nativeStringsUptoRow, standIns := [], harness := (true, "d0be065d193a3fa1b56c4b771d487460df22bb6101bcc3db90dac086316fe3a6"), looks := false }, kinds := [], alts := [], laidByText := true, laidKinds := [.data, .data, .data], laidTests := true, laidLooks := .later }
def NativeStringsUptoCardSaid : Prop := Claim7.holds Tryd.pinned (.plain (OpenSpec.upto nativeStringsSpec)) nativeStringsUptoCard

/-- THE SECOND FORM's CARD OF 'samovarlaw24.NativeCopies'. -/
def nativeCopiesUptoCard : Claim7 := { stood := { row := nativeCopiesUptoRow, standIns := [], harness := (true, "d0be065d193a3fa1b56c4b771d487460df22bb6101bcc3db90dac086316fe3a6"), looks := false }, kinds := [], alts := [], laidByText := true, laidKinds := [.data, .data, .data], laidTests := true, laidLooks := .later }
def NativeCopiesUptoCardSaid : Prop := Claim7.holds Tryd.pinned (.plain (OpenSpec.upto nativeCopiesSpec)) nativeCopiesUptoCard

/-- THE SECOND FORM's CARD OF 'samovarlaw24.NativePlays'. -/
def nativePlaysUptoCard : Claim7 := { stood := { row := nativePlaysUptoRow, standIns := [], harness := (true, "d0be065d193a3fa1b56c4b771d487460df22bb6101bcc3db90dac086316fe3a6"), looks := false }, kinds := [], alts := [], laidByText := true, laidKinds := [.data, .data, .data], laidTests := true, laidLooks := .later }
def NativePlaysUptoCardSaid : Prop := Claim7.holds Tryd.pinned (.plain (OpenSpec.upto nativePlaysSpec)) nativePlaysUptoCard
end Rows
end Go.Proofs.YtchbidckckmobaaDoor
