/-
  NARROWER THAN 'FOR EVERY INPUT', by the rows' own cells (each row's printed sentence says how): SlideMarks: laid · SlideCollects: laid · SlideAgain: laid · SlideReads: laid · HeapKeeps: laid · HeapRoom: laid · HeapCollects: laid · HeapPlays: laid · HeapNil: laid · NativeDigits: laid · NativeStrings: laid · NativeCopies: laid · NativePlays: laid.
  DERIVED. THE GIVEN ROWS OF THIS SEAT. 13 by the template 'for every input the law returns true; each argument reads behind the call as it read before'; 0 by the template 'total and deterministic' (their statements: YtchbidckckmobaaDoorTotals.lean).
  GIVEN WITH THE SEED: the statements are not yours to turn. If you find one false, say at which input.
  Laid BY PROGRAM, IN A SANDBOX (cutbox-rows.mjs): the forced cells as the released guide's own fill.sh prints them over the translation 031265b1a229296f… (all of the seat's roots in one cut). By AI agents, Wed Nov 11 2026. No macro, syntax, notation, axiom, sorry.
-/
import Derived.Test.YtchbidckckmobaaDoorChecked
import GoSem.Claim
import GoSem.ClaimJoined
import GoSem.ClaimMapViews
import Derived.JoinedTies
import Derived.KernelRfl
namespace Go.Proofs.YtchbidckckmobaaDoor
/- THE CELL 'sum', in the pinned program and in every row, IS THE sha256 OF THE DUMP (.gsa) THAT YtchbidckckmobaaDoorProg.lean LOADS. Nothing in Lean hashes anything: it is a label: what it is worth is what the hold of that sum in a sandbox is worth. -/
noncomputable def Tryd.pinned : Pinned := { name := "ytchbidckckmobaadoor", sum := "031265b1a229296f8b9d02ad5baf7c32700720f65a389619d9ea65e258d9a9ac", checked := Tryd.checked }
namespace Rows
def none {H : Type} : Left H := { results := [], args := [] }

/- WHAT THE LISTED PACKAGE-LEVEL VARIABLES READ AS WHEN THE CALL BEGINS. Each datum BY PROGRAM (the guide's laid-datum.mjs) off the statement by which the dump's own 'gosem.cut.vars' lays the variable. In a bare row this is a premise. The card (YtchbidckckmobaaDoorCards.lean) ties it to the program's text. -/
def laid_math_bits_deBruijn64tab {H : Type} : DataW H := .agg [.lit (.int .u8 0), .lit (.int .u8 1), .lit (.int .u8 56), .lit (.int .u8 2), .lit (.int .u8 57), .lit (.int .u8 49), .lit (.int .u8 28), .lit (.int .u8 3), .lit (.int .u8 61), .lit (.int .u8 58), .lit (.int .u8 42), .lit (.int .u8 50), .lit (.int .u8 38), .lit (.int .u8 29), .lit (.int .u8 17), .lit (.int .u8 4), .lit (.int .u8 62), .lit (.int .u8 47), .lit (.int .u8 59), .lit (.int .u8 36), .lit (.int .u8 45), .lit (.int .u8 43), .lit (.int .u8 51), .lit (.int .u8 22), .lit (.int .u8 53), .lit (.int .u8 39), .lit (.int .u8 33), .lit (.int .u8 30), .lit (.int .u8 24), .lit (.int .u8 18), .lit (.int .u8 12), .lit (.int .u8 5), .lit (.int .u8 63), .lit (.int .u8 55), .lit (.int .u8 48), .lit (.int .u8 27), .lit (.int .u8 60), .lit (.int .u8 41), .lit (.int .u8 37), .lit (.int .u8 16), .lit (.int .u8 46), .lit (.int .u8 35), .lit (.int .u8 44), .lit (.int .u8 21), .lit (.int .u8 52), .lit (.int .u8 32), .lit (.int .u8 23), .lit (.int .u8 11), .lit (.int .u8 54), .lit (.int .u8 26), .lit (.int .u8 40), .lit (.int .u8 15), .lit (.int .u8 34), .lit (.int .u8 20), .lit (.int .u8 31), .lit (.int .u8 10), .lit (.int .u8 25), .lit (.int .u8 14), .lit (.int .u8 19), .lit (.int .u8 9), .lit (.int .u8 13), .lit (.int .u8 8), .lit (.int .u8 7), .lit (.int .u8 6)]
def laid_math_bits_deBruijn32tab {H : Type} : DataW H := .agg [.lit (.int .u8 0), .lit (.int .u8 1), .lit (.int .u8 28), .lit (.int .u8 2), .lit (.int .u8 29), .lit (.int .u8 14), .lit (.int .u8 24), .lit (.int .u8 3), .lit (.int .u8 30), .lit (.int .u8 22), .lit (.int .u8 20), .lit (.int .u8 15), .lit (.int .u8 25), .lit (.int .u8 17), .lit (.int .u8 4), .lit (.int .u8 8), .lit (.int .u8 31), .lit (.int .u8 27), .lit (.int .u8 13), .lit (.int .u8 23), .lit (.int .u8 21), .lit (.int .u8 19), .lit (.int .u8 16), .lit (.int .u8 7), .lit (.int .u8 26), .lit (.int .u8 12), .lit (.int .u8 18), .lit (.int .u8 6), .lit (.int .u8 11), .lit (.int .u8 5), .lit (.int .u8 10), .lit (.int .u8 9)]
def laid_internal_strconv_uint64pow10 {H : Type} : DataW H := .agg [.lit (.int .u64 1), .lit (.int .u64 10), .lit (.int .u64 100), .lit (.int .u64 1000), .lit (.int .u64 10000), .lit (.int .u64 100000), .lit (.int .u64 1000000), .lit (.int .u64 10000000), .lit (.int .u64 100000000), .lit (.int .u64 1000000000), .lit (.int .u64 10000000000), .lit (.int .u64 100000000000), .lit (.int .u64 1000000000000), .lit (.int .u64 10000000000000), .lit (.int .u64 100000000000000), .lit (.int .u64 1000000000000000), .lit (.int .u64 10000000000000000), .lit (.int .u64 100000000000000000), .lit (.int .u64 1000000000000000000), .lit (.int .u64 10000000000000000000)]

/-- 'samovarlaw20.SlideMarks': WHATEVER THE INPUT: true; the input reads as it did. -/
def slideMarksSpec : ChangeSpec := { name := "slideMarks", fn := fun _ => fun
  | [d1, d2] => { results := [.lit (.bool true)], args := [d1, d2] }
  | _ => none }
def slideMarksRow : OpenClaim := { program := "ytchbidckckmobaadoor", sum := "031265b1a229296f8b9d02ad5baf7c32700720f65a389619d9ea65e258d9a9ac", func := "samovar/samovarlaw20.SlideMarks", spec := "slideMarks", unfollowed := true, recurses := true, named := ["math/bits.deBruijn64tab"], apart := false, laid := [("math/bits.deBruijn64tab", laid_math_bits_deBruijn64tab)] }
def SlideMarksSaid : Prop := slideMarksRow.holds Tryd.pinned (OpenSpec.ofChange slideMarksSpec)

/-- ITS FALSE NEIGHBOUR: 'it returns false'. Refute it at one input. -/
def slideMarksWrong : ChangeSpec := { name := "slideMarks", fn := fun _ => fun
  | [d1, d2] => { results := [.lit (.bool false)], args := [d1, d2] }
  | _ => none }
def SlideMarksWrongFalsely : Prop := slideMarksRow.holds Tryd.pinned (OpenSpec.ofChange slideMarksWrong)

/-- 'samovarlaw20.SlideCollects': WHATEVER THE INPUT: true; the input reads as it did. -/
def slideCollectsSpec : ChangeSpec := { name := "slideCollects", fn := fun _ => fun
  | [d1, d2] => { results := [.lit (.bool true)], args := [d1, d2] }
  | _ => none }
def slideCollectsRow : OpenClaim := { program := "ytchbidckckmobaadoor", sum := "031265b1a229296f8b9d02ad5baf7c32700720f65a389619d9ea65e258d9a9ac", func := "samovar/samovarlaw20.SlideCollects", spec := "slideCollects", unfollowed := true, recurses := true, named := ["math/bits.deBruijn64tab"], apart := false, laid := [("math/bits.deBruijn64tab", laid_math_bits_deBruijn64tab)] }
def SlideCollectsSaid : Prop := slideCollectsRow.holds Tryd.pinned (OpenSpec.ofChange slideCollectsSpec)

/-- ITS FALSE NEIGHBOUR: 'it returns false'. Refute it at one input. -/
def slideCollectsWrong : ChangeSpec := { name := "slideCollects", fn := fun _ => fun
  | [d1, d2] => { results := [.lit (.bool false)], args := [d1, d2] }
  | _ => none }
def SlideCollectsWrongFalsely : Prop := slideCollectsRow.holds Tryd.pinned (OpenSpec.ofChange slideCollectsWrong)

/-- 'samovarlaw20.SlideAgain': WHATEVER THE INPUT: true; the input reads as it did. -/
def slideAgainSpec : ChangeSpec := { name := "slideAgain", fn := fun _ => fun
  | [d1, d2] => { results := [.lit (.bool true)], args := [d1, d2] }
  | _ => none }
def slideAgainRow : OpenClaim := { program := "ytchbidckckmobaadoor", sum := "031265b1a229296f8b9d02ad5baf7c32700720f65a389619d9ea65e258d9a9ac", func := "samovar/samovarlaw20.SlideAgain", spec := "slideAgain", unfollowed := true, recurses := true, named := ["math/bits.deBruijn64tab"], apart := false, laid := [("math/bits.deBruijn64tab", laid_math_bits_deBruijn64tab)] }
def SlideAgainSaid : Prop := slideAgainRow.holds Tryd.pinned (OpenSpec.ofChange slideAgainSpec)

/-- ITS FALSE NEIGHBOUR: 'it returns false'. Refute it at one input. -/
def slideAgainWrong : ChangeSpec := { name := "slideAgain", fn := fun _ => fun
  | [d1, d2] => { results := [.lit (.bool false)], args := [d1, d2] }
  | _ => none }
def SlideAgainWrongFalsely : Prop := slideAgainRow.holds Tryd.pinned (OpenSpec.ofChange slideAgainWrong)

/-- 'samovarlaw20.SlideReads': WHATEVER THE INPUT: true; the input reads as it did. -/
def slideReadsSpec : ChangeSpec := { name := "slideReads", fn := fun _ => fun
  | [d1, d2, d3] => { results := [.lit (.bool true)], args := [d1, d2, d3] }
  | _ => none }
def slideReadsRow : OpenClaim := { program := "ytchbidckckmobaadoor", sum := "031265b1a229296f8b9d02ad5baf7c32700720f65a389619d9ea65e258d9a9ac", func := "samovar/samovarlaw20.SlideReads", spec := "slideReads", unfollowed := true, recurses := true, named := ["math/bits.deBruijn64tab"], apart := false, laid := [("math/bits.deBruijn64tab", laid_math_bits_deBruijn64tab)] }
def SlideReadsSaid : Prop := slideReadsRow.holds Tryd.pinned (OpenSpec.ofChange slideReadsSpec)

/-- ITS FALSE NEIGHBOUR: 'it returns false'. Refute it at one input. -/
def slideReadsWrong : ChangeSpec := { name := "slideReads", fn := fun _ => fun
  | [d1, d2, d3] => { results := [.lit (.bool false)], args := [d1, d2, d3] }
  | _ => none }
def SlideReadsWrongFalsely : Prop := slideReadsRow.holds Tryd.pinned (OpenSpec.ofChange slideReadsWrong)

/-- 'samovarlaw21.HeapKeeps': WHATEVER THE INPUT: true; the input reads as it did. -/
def heapKeepsSpec : ChangeSpec := { name := "heapKeeps", fn := fun _ => fun
  | [d1, d2] => { results := [.lit (.bool true)], args := [d1, d2] }
  | _ => none }
def heapKeepsRow : OpenClaim := { program := "ytchbidckckmobaadoor", sum := "031265b1a229296f8b9d02ad5baf7c32700720f65a389619d9ea65e258d9a9ac", func := "samovar/samovarlaw21.HeapKeeps", spec := "heapKeeps", unfollowed := true, recurses := true, named := ["math/bits.deBruijn64tab"], apart := false, laid := [("math/bits.deBruijn64tab", laid_math_bits_deBruijn64tab)] }
def HeapKeepsSaid : Prop := heapKeepsRow.holds Tryd.pinned (OpenSpec.ofChange heapKeepsSpec)

/-- ITS FALSE NEIGHBOUR: 'it returns false'. Refute it at one input. -/
def heapKeepsWrong : ChangeSpec := { name := "heapKeeps", fn := fun _ => fun
  | [d1, d2] => { results := [.lit (.bool false)], args := [d1, d2] }
  | _ => none }
def HeapKeepsWrongFalsely : Prop := heapKeepsRow.holds Tryd.pinned (OpenSpec.ofChange heapKeepsWrong)

/-- 'samovarlaw21.HeapRoom': WHATEVER THE INPUT: true; the input reads as it did. -/
def heapRoomSpec : ChangeSpec := { name := "heapRoom", fn := fun _ => fun
  | [d1, d2] => { results := [.lit (.bool true)], args := [d1, d2] }
  | _ => none }
def heapRoomRow : OpenClaim := { program := "ytchbidckckmobaadoor", sum := "031265b1a229296f8b9d02ad5baf7c32700720f65a389619d9ea65e258d9a9ac", func := "samovar/samovarlaw21.HeapRoom", spec := "heapRoom", unfollowed := true, recurses := true, named := ["math/bits.deBruijn64tab"], apart := false, laid := [("math/bits.deBruijn64tab", laid_math_bits_deBruijn64tab)] }
def HeapRoomSaid : Prop := heapRoomRow.holds Tryd.pinned (OpenSpec.ofChange heapRoomSpec)

/-- ITS FALSE NEIGHBOUR: 'it returns false'. Refute it at one input. -/
def heapRoomWrong : ChangeSpec := { name := "heapRoom", fn := fun _ => fun
  | [d1, d2] => { results := [.lit (.bool false)], args := [d1, d2] }
  | _ => none }
def HeapRoomWrongFalsely : Prop := heapRoomRow.holds Tryd.pinned (OpenSpec.ofChange heapRoomWrong)

/-- 'samovarlaw21.HeapCollects': WHATEVER THE INPUT: true; the input reads as it did. -/
def heapCollectsSpec : ChangeSpec := { name := "heapCollects", fn := fun _ => fun
  | [d1, d2, d3] => { results := [.lit (.bool true)], args := [d1, d2, d3] }
  | _ => none }
def heapCollectsRow : OpenClaim := { program := "ytchbidckckmobaadoor", sum := "031265b1a229296f8b9d02ad5baf7c32700720f65a389619d9ea65e258d9a9ac", func := "samovar/samovarlaw21.HeapCollects", spec := "heapCollects", unfollowed := true, recurses := true, named := ["math/bits.deBruijn64tab"], apart := false, laid := [("math/bits.deBruijn64tab", laid_math_bits_deBruijn64tab)] }
def HeapCollectsSaid : Prop := heapCollectsRow.holds Tryd.pinned (OpenSpec.ofChange heapCollectsSpec)

/-- ITS FALSE NEIGHBOUR: 'it returns false'. Refute it at one input. -/
def heapCollectsWrong : ChangeSpec := { name := "heapCollects", fn := fun _ => fun
  | [d1, d2, d3] => { results := [.lit (.bool false)], args := [d1, d2, d3] }
  | _ => none }
def HeapCollectsWrongFalsely : Prop := heapCollectsRow.holds Tryd.pinned (OpenSpec.ofChange heapCollectsWrong)

/-- 'samovarlaw21.HeapPlays': WHATEVER THE INPUT: true; the input reads as it did. -/
def heapPlaysSpec : ChangeSpec := { name := "heapPlays", fn := fun _ => fun
  | [d1, d2] => { results := [.lit (.bool true)], args := [d1, d2] }
  | _ => none }
def heapPlaysRow : OpenClaim := { program := "ytchbidckckmobaadoor", sum := "031265b1a229296f8b9d02ad5baf7c32700720f65a389619d9ea65e258d9a9ac", func := "samovar/samovarlaw21.HeapPlays", spec := "heapPlays", unfollowed := true, recurses := true, named := ["math/bits.deBruijn64tab"], apart := false, laid := [("math/bits.deBruijn64tab", laid_math_bits_deBruijn64tab)] }
def HeapPlaysSaid : Prop := heapPlaysRow.holds Tryd.pinned (OpenSpec.ofChange heapPlaysSpec)

/-- ITS FALSE NEIGHBOUR: 'it returns false'. Refute it at one input. -/
def heapPlaysWrong : ChangeSpec := { name := "heapPlays", fn := fun _ => fun
  | [d1, d2] => { results := [.lit (.bool false)], args := [d1, d2] }
  | _ => none }
def HeapPlaysWrongFalsely : Prop := heapPlaysRow.holds Tryd.pinned (OpenSpec.ofChange heapPlaysWrong)

/-- 'samovarlaw21.HeapNil': WHATEVER THE INPUT: true; the input reads as it did. -/
def heapNilSpec : ChangeSpec := { name := "heapNil", fn := fun _ => fun
  | [d1, d2, d3] => { results := [.lit (.bool true)], args := [d1, d2, d3] }
  | _ => none }
def heapNilRow : OpenClaim := { program := "ytchbidckckmobaadoor", sum := "031265b1a229296f8b9d02ad5baf7c32700720f65a389619d9ea65e258d9a9ac", func := "samovar/samovarlaw21.HeapNil", spec := "heapNil", unfollowed := true, recurses := true, named := ["math/bits.deBruijn64tab"], apart := false, laid := [("math/bits.deBruijn64tab", laid_math_bits_deBruijn64tab)] }
def HeapNilSaid : Prop := heapNilRow.holds Tryd.pinned (OpenSpec.ofChange heapNilSpec)

/-- ITS FALSE NEIGHBOUR: 'it returns false'. Refute it at one input. -/
def heapNilWrong : ChangeSpec := { name := "heapNil", fn := fun _ => fun
  | [d1, d2, d3] => { results := [.lit (.bool false)], args := [d1, d2, d3] }
  | _ => none }
def HeapNilWrongFalsely : Prop := heapNilRow.holds Tryd.pinned (OpenSpec.ofChange heapNilWrong)

/-- 'samovarlaw24.NativeDigits': WHATEVER THE INPUT: true; the input reads as it did. -/
def nativeDigitsSpec : ChangeSpec := { name := "nativeDigits", fn := fun _ => fun
  | [d] => { results := [.lit (.bool true)], args := [d] }
  | _ => none }
def nativeDigitsRow : OpenClaim := { program := "ytchbidckckmobaadoor", sum := "031265b1a229296f8b9d02ad5baf7c32700720f65a389619d9ea65e258d9a9ac", func := "samovar/samovarlaw24.NativeDigits", spec := "nativeDigits", named := ["internal/strconv.uint64pow10", "math/bits.deBruijn32tab", "math/bits.deBruijn64tab"], apart := false, laid := [("math/bits.deBruijn32tab", laid_math_bits_deBruijn32tab), ("math/bits.deBruijn64tab", laid_math_bits_deBruijn64tab), ("internal/strconv.uint64pow10", laid_internal_strconv_uint64pow10)] }
def NativeDigitsSaid : Prop := nativeDigitsRow.holds Tryd.pinned (OpenSpec.ofChange nativeDigitsSpec)

/-- ITS FALSE NEIGHBOUR: 'it returns false'. Refute it at one input. -/
def nativeDigitsWrong : ChangeSpec := { name := "nativeDigits", fn := fun _ => fun
  | [d] => { results := [.lit (.bool false)], args := [d] }
  | _ => none }
def NativeDigitsWrongFalsely : Prop := nativeDigitsRow.holds Tryd.pinned (OpenSpec.ofChange nativeDigitsWrong)

/-- 'samovarlaw24.NativeStrings': WHATEVER THE INPUT: true; the input reads as it did. -/
def nativeStringsSpec : ChangeSpec := { name := "nativeStrings", fn := fun _ => fun
  | [d1, d2] => { results := [.lit (.bool true)], args := [d1, d2] }
  | _ => none }
def nativeStringsRow : OpenClaim := { program := "ytchbidckckmobaadoor", sum := "031265b1a229296f8b9d02ad5baf7c32700720f65a389619d9ea65e258d9a9ac", func := "samovar/samovarlaw24.NativeStrings", spec := "nativeStrings", named := ["internal/strconv.uint64pow10", "math/bits.deBruijn32tab", "math/bits.deBruijn64tab"], apart := false, laid := [("math/bits.deBruijn32tab", laid_math_bits_deBruijn32tab), ("math/bits.deBruijn64tab", laid_math_bits_deBruijn64tab), ("internal/strconv.uint64pow10", laid_internal_strconv_uint64pow10)] }
def NativeStringsSaid : Prop := nativeStringsRow.holds Tryd.pinned (OpenSpec.ofChange nativeStringsSpec)

/-- ITS FALSE NEIGHBOUR: 'it returns false'. Refute it at one input. -/
def nativeStringsWrong : ChangeSpec := { name := "nativeStrings", fn := fun _ => fun
  | [d1, d2] => { results := [.lit (.bool false)], args := [d1, d2] }
  | _ => none }
def NativeStringsWrongFalsely : Prop := nativeStringsRow.holds Tryd.pinned (OpenSpec.ofChange nativeStringsWrong)

/-- 'samovarlaw24.NativeCopies': WHATEVER THE INPUT: true; the input reads as it did. -/
def nativeCopiesSpec : ChangeSpec := { name := "nativeCopies", fn := fun _ => fun
  | [d1, d2, d3, d4] => { results := [.lit (.bool true)], args := [d1, d2, d3, d4] }
  | _ => none }
def nativeCopiesRow : OpenClaim := { program := "ytchbidckckmobaadoor", sum := "031265b1a229296f8b9d02ad5baf7c32700720f65a389619d9ea65e258d9a9ac", func := "samovar/samovarlaw24.NativeCopies", spec := "nativeCopies", named := ["internal/strconv.uint64pow10", "math/bits.deBruijn32tab", "math/bits.deBruijn64tab"], apart := false, laid := [("math/bits.deBruijn32tab", laid_math_bits_deBruijn32tab), ("math/bits.deBruijn64tab", laid_math_bits_deBruijn64tab), ("internal/strconv.uint64pow10", laid_internal_strconv_uint64pow10)] }
def NativeCopiesSaid : Prop := nativeCopiesRow.holds Tryd.pinned (OpenSpec.ofChange nativeCopiesSpec)

/-- ITS FALSE NEIGHBOUR: 'it returns false'. Refute it at one input. -/
def nativeCopiesWrong : ChangeSpec := { name := "nativeCopies", fn := fun _ => fun
  | [d1, d2, d3, d4] => { results := [.lit (.bool false)], args := [d1, d2, d3, d4] }
  | _ => none }
def NativeCopiesWrongFalsely : Prop := nativeCopiesRow.holds Tryd.pinned (OpenSpec.ofChange nativeCopiesWrong)

/-- 'samovarlaw24.NativePlays': WHATEVER THE INPUT: true; the input reads as it did. -/
def nativePlaysSpec : ChangeSpec := { name := "nativePlays", fn := fun _ => fun
  | [d1, d2] => { results := [.lit (.bool true)], args := [d1, d2] }
  | _ => none }
def nativePlaysRow : OpenClaim := { program := "ytchbidckckmobaadoor", sum := "031265b1a229296f8b9d02ad5baf7c32700720f65a389619d9ea65e258d9a9ac", func := "samovar/samovarlaw24.NativePlays", spec := "nativePlays", named := ["internal/strconv.uint64pow10", "math/bits.deBruijn32tab", "math/bits.deBruijn64tab"], apart := false, laid := [("math/bits.deBruijn32tab", laid_math_bits_deBruijn32tab), ("math/bits.deBruijn64tab", laid_math_bits_deBruijn64tab), ("internal/strconv.uint64pow10", laid_internal_strconv_uint64pow10)] }
def NativePlaysSaid : Prop := nativePlaysRow.holds Tryd.pinned (OpenSpec.ofChange nativePlaysSpec)

/-- ITS FALSE NEIGHBOUR: 'it returns false'. Refute it at one input. -/
def nativePlaysWrong : ChangeSpec := { name := "nativePlays", fn := fun _ => fun
  | [d1, d2] => { results := [.lit (.bool false)], args := [d1, d2] }
  | _ => none }
def NativePlaysWrongFalsely : Prop := nativePlaysRow.holds Tryd.pinned (OpenSpec.ofChange nativePlaysWrong)

/- THE SECOND FORM. 'bulk': how many values and letters a reading holds, each counted each time it is reached (what is shared counts as often as it is met; a slice's spare places count too). A statement '..UptoSaid' is the law's where the arguments, and the package variables that the reading takes, are together of bulk at most 1048576: NARROWER than '..Said'. Prove '..Said' where nothing that the law and all that it calls make is longer than what came in: it says more and counts as full. Else prove '..UptoSaid'. A law counts once. -/
mutual
def uptoBulk {H : Type} : DataW H → Nat
  | .lit (.string bytes) => bytes.length + 1
  | .lit _ => 1
  | .nil => 1
  | .ptr d => uptoBulk d + 1
  | .slice elems spare => uptoBulkAll elems + uptoBulkAll spare + 1
  | .agg parts => uptoBulkAll parts + 1
  | .iface _ d => uptoBulk d + 1
  | .map entries => uptoBulkEntries entries + 1
  | .held _ => 1
def uptoBulkAll {H : Type} : List (DataW H) → Nat
  | [] => 0
  | d :: r => uptoBulk d + uptoBulkAll r
def uptoBulkEntries {H : Type} : List (Lit × DataW H) → Nat
  | [] => 0
  | x :: r => uptoBulkEntry x + uptoBulkEntries r
def uptoBulkEntry {H : Type} : Lit × DataW H → Nat
  | (.string bytes, d) => bytes.length + uptoBulk d + 1
  | (_, d) => uptoBulk d + 1
 end
def uptoSmall : (H : Type) → List (DataW H) → Bool := fun _ ds => decide (uptoBulkAll ds ≤ 1048576)
def OpenSpec.upto (s : _root_.Go.ChangeSpec) : _root_.Go.OpenSpec := { _root_.Go.OpenSpec.ofChange s with cond := some uptoSmall }

/-- 'samovarlaw20.SlideMarks', WHERE WHAT IT READS IS OF BULK AT MOST 1048576: true; the input reads as it did. -/
def slideMarksUptoRow : OpenClaim := { program := "ytchbidckckmobaadoor", sum := "031265b1a229296f8b9d02ad5baf7c32700720f65a389619d9ea65e258d9a9ac", func := "samovar/samovarlaw20.SlideMarks", spec := "slideMarks", unfollowed := true, recurses := true, named := ["math/bits.deBruijn64tab"], apart := false, laid := [("math/bits.deBruijn64tab", laid_math_bits_deBruijn64tab)], narrowed := true }
def SlideMarksUptoSaid : Prop := slideMarksUptoRow.holds Tryd.pinned (OpenSpec.upto slideMarksSpec)

/-- 'samovarlaw20.SlideCollects', WHERE WHAT IT READS IS OF BULK AT MOST 1048576: true; the input reads as it did. -/
def slideCollectsUptoRow : OpenClaim := { program := "ytchbidckckmobaadoor", sum := "031265b1a229296f8b9d02ad5baf7c32700720f65a389619d9ea65e258d9a9ac", func := "samovar/samovarlaw20.SlideCollects", spec := "slideCollects", unfollowed := true, recurses := true, named := ["math/bits.deBruijn64tab"], apart := false, laid := [("math/bits.deBruijn64tab", laid_math_bits_deBruijn64tab)], narrowed := true }
def SlideCollectsUptoSaid : Prop := slideCollectsUptoRow.holds Tryd.pinned (OpenSpec.upto slideCollectsSpec)

/-- 'samovarlaw20.SlideAgain', WHERE WHAT IT READS IS OF BULK AT MOST 1048576: true; the input reads as it did. -/
def slideAgainUptoRow : OpenClaim := { program := "ytchbidckckmobaadoor", sum := "031265b1a229296f8b9d02ad5baf7c32700720f65a389619d9ea65e258d9a9ac", func := "samovar/samovarlaw20.SlideAgain", spec := "slideAgain", unfollowed := true, recurses := true, named := ["math/bits.deBruijn64tab"], apart := false, laid := [("math/bits.deBruijn64tab", laid_math_bits_deBruijn64tab)], narrowed := true }
def SlideAgainUptoSaid : Prop := slideAgainUptoRow.holds Tryd.pinned (OpenSpec.upto slideAgainSpec)

/-- 'samovarlaw20.SlideReads', WHERE WHAT IT READS IS OF BULK AT MOST 1048576: true; the input reads as it did. -/
def slideReadsUptoRow : OpenClaim := { program := "ytchbidckckmobaadoor", sum := "031265b1a229296f8b9d02ad5baf7c32700720f65a389619d9ea65e258d9a9ac", func := "samovar/samovarlaw20.SlideReads", spec := "slideReads", unfollowed := true, recurses := true, named := ["math/bits.deBruijn64tab"], apart := false, laid := [("math/bits.deBruijn64tab", laid_math_bits_deBruijn64tab)], narrowed := true }
def SlideReadsUptoSaid : Prop := slideReadsUptoRow.holds Tryd.pinned (OpenSpec.upto slideReadsSpec)

/-- 'samovarlaw21.HeapKeeps', WHERE WHAT IT READS IS OF BULK AT MOST 1048576: true; the input reads as it did. -/
def heapKeepsUptoRow : OpenClaim := { program := "ytchbidckckmobaadoor", sum := "031265b1a229296f8b9d02ad5baf7c32700720f65a389619d9ea65e258d9a9ac", func := "samovar/samovarlaw21.HeapKeeps", spec := "heapKeeps", unfollowed := true, recurses := true, named := ["math/bits.deBruijn64tab"], apart := false, laid := [("math/bits.deBruijn64tab", laid_math_bits_deBruijn64tab)], narrowed := true }
def HeapKeepsUptoSaid : Prop := heapKeepsUptoRow.holds Tryd.pinned (OpenSpec.upto heapKeepsSpec)

/-- 'samovarlaw21.HeapRoom', WHERE WHAT IT READS IS OF BULK AT MOST 1048576: true; the input reads as it did. -/
def heapRoomUptoRow : OpenClaim := { program := "ytchbidckckmobaadoor", sum := "031265b1a229296f8b9d02ad5baf7c32700720f65a389619d9ea65e258d9a9ac", func := "samovar/samovarlaw21.HeapRoom", spec := "heapRoom", unfollowed := true, recurses := true, named := ["math/bits.deBruijn64tab"], apart := false, laid := [("math/bits.deBruijn64tab", laid_math_bits_deBruijn64tab)], narrowed := true }
def HeapRoomUptoSaid : Prop := heapRoomUptoRow.holds Tryd.pinned (OpenSpec.upto heapRoomSpec)

/-- 'samovarlaw21.HeapCollects', WHERE WHAT IT READS IS OF BULK AT MOST 1048576: true; the input reads as it did. -/
def heapCollectsUptoRow : OpenClaim := { program := "ytchbidckckmobaadoor", sum := "031265b1a229296f8b9d02ad5baf7c32700720f65a389619d9ea65e258d9a9ac", func := "samovar/samovarlaw21.HeapCollects", spec := "heapCollects", unfollowed := true, recurses := true, named := ["math/bits.deBruijn64tab"], apart := false, laid := [("math/bits.deBruijn64tab", laid_math_bits_deBruijn64tab)], narrowed := true }
def HeapCollectsUptoSaid : Prop := heapCollectsUptoRow.holds Tryd.pinned (OpenSpec.upto heapCollectsSpec)

/-- 'samovarlaw21.HeapPlays', WHERE WHAT IT READS IS OF BULK AT MOST 1048576: true; the input reads as it did. -/
def heapPlaysUptoRow : OpenClaim := { program := "ytchbidckckmobaadoor", sum := "031265b1a229296f8b9d02ad5baf7c32700720f65a389619d9ea65e258d9a9ac", func := "samovar/samovarlaw21.HeapPlays", spec := "heapPlays", unfollowed := true, recurses := true, named := ["math/bits.deBruijn64tab"], apart := false, laid := [("math/bits.deBruijn64tab", laid_math_bits_deBruijn64tab)], narrowed := true }
def HeapPlaysUptoSaid : Prop := heapPlaysUptoRow.holds Tryd.pinned (OpenSpec.upto heapPlaysSpec)

/-- 'samovarlaw21.HeapNil', WHERE WHAT IT READS IS OF BULK AT MOST 1048576: true; the input reads as it did. -/
def heapNilUptoRow : OpenClaim := { program := "ytchbidckckmobaadoor", sum := "031265b1a229296f8b9d02ad5baf7c32700720f65a389619d9ea65e258d9a9ac", func := "samovar/samovarlaw21.HeapNil", spec := "heapNil", unfollowed := true, recurses := true, named := ["math/bits.deBruijn64tab"], apart := false, laid := [("math/bits.deBruijn64tab", laid_math_bits_deBruijn64tab)], narrowed := true }
def HeapNilUptoSaid : Prop := heapNilUptoRow.holds Tryd.pinned (OpenSpec.upto heapNilSpec)

/-- 'samovarlaw24.NativeDigits', WHERE WHAT IT READS IS OF BULK AT MOST 1048576: true; the input reads as it did. -/
def nativeDigitsUptoRow : OpenClaim := { program := "ytchbidckckmobaadoor", sum := "031265b1a229296f8b9d02ad5baf7c32700720f65a389619d9ea65e258d9a9ac", func := "samovar/samovarlaw24.NativeDigits", spec := "nativeDigits", named := ["internal/strconv.uint64pow10", "math/bits.deBruijn32tab", "math/bits.deBruijn64tab"], apart := false, laid := [("math/bits.deBruijn32tab", laid_math_bits_deBruijn32tab), ("math/bits.deBruijn64tab", laid_math_bits_deBruijn64tab), ("internal/strconv.uint64pow10", laid_internal_strconv_uint64pow10)], narrowed := true }
def NativeDigitsUptoSaid : Prop := nativeDigitsUptoRow.holds Tryd.pinned (OpenSpec.upto nativeDigitsSpec)

/-- 'samovarlaw24.NativeStrings', WHERE WHAT IT READS IS OF BULK AT MOST 1048576: true; the input reads as it did. -/
def nativeStringsUptoRow : OpenClaim := { program := "ytchbidckckmobaadoor", sum := "031265b1a229296f8b9d02ad5baf7c32700720f65a389619d9ea65e258d9a9ac", func := "samovar/samovarlaw24.NativeStrings", spec := "nativeStrings", named := ["internal/strconv.uint64pow10", "math/bits.deBruijn32tab", "math/bits.deBruijn64tab"], apart := false, laid := [("math/bits.deBruijn32tab", laid_math_bits_deBruijn32tab), ("math/bits.deBruijn64tab", laid_math_bits_deBruijn64tab), ("internal/strconv.uint64pow10", laid_internal_strconv_uint64pow10)], narrowed := true }
def NativeStringsUptoSaid : Prop := nativeStringsUptoRow.holds Tryd.pinned (OpenSpec.upto nativeStringsSpec)

/-- 'samovarlaw24.NativeCopies', WHERE WHAT IT READS IS OF BULK AT MOST 1048576: true; the input reads as it did. -/
def nativeCopiesUptoRow : OpenClaim := { program := "ytchbidckckmobaadoor", sum := "031265b1a229296f8b9d02ad5baf7c32700720f65a389619d9ea65e258d9a9ac", func := "samovar/samovarlaw24.NativeCopies", spec := "nativeCopies", named := ["internal/strconv.uint64pow10", "math/bits.deBruijn32tab", "math/bits.deBruijn64tab"], apart := false, laid := [("math/bits.deBruijn32tab", laid_math_bits_deBruijn32tab), ("math/bits.deBruijn64tab", laid_math_bits_deBruijn64tab), ("internal/strconv.uint64pow10", laid_internal_strconv_uint64pow10)], narrowed := true }
def NativeCopiesUptoSaid : Prop := nativeCopiesUptoRow.holds Tryd.pinned (OpenSpec.upto nativeCopiesSpec)

/-- 'samovarlaw24.NativePlays', WHERE WHAT IT READS IS OF BULK AT MOST 1048576: true; the input reads as it did. -/
def nativePlaysUptoRow : OpenClaim := { program := "ytchbidckckmobaadoor", sum := "031265b1a229296f8b9d02ad5baf7c32700720f65a389619d9ea65e258d9a9ac", func := "samovar/samovarlaw24.NativePlays", spec := "nativePlays", named := ["internal/strconv.uint64pow10", "math/bits.deBruijn32tab", "math/bits.deBruijn64tab"], apart := false, laid := [("math/bits.deBruijn32tab", laid_math_bits_deBruijn32tab), ("math/bits.deBruijn64tab", laid_math_bits_deBruijn64tab), ("internal/strconv.uint64pow10", laid_internal_strconv_uint64pow10)], narrowed := true }
def NativePlaysUptoSaid : Prop := nativePlaysUptoRow.holds Tryd.pinned (OpenSpec.upto nativePlaysSpec)

end Rows
end Go.Proofs.YtchbidckckmobaaDoor
