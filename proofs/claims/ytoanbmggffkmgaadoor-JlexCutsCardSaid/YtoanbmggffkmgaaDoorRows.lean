/-
  NARROWER THAN 'FOR EVERY INPUT', by the rows' own cells (each row's printed sentence says how): JlexPlaces: laid · JlexNumbers: laid · EscKnown: laid · EscWrites: laid · EscEvery: laid · EscCuts: laid · JlexKnown: laid · JlexCuts: laid · JlexBlanks: laid.
  DERIVED. THE GIVEN ROWS OF THIS SEAT. 9 by the template 'for every input the law returns true; each argument reads behind the call as it read before'; 0 by the template 'total and deterministic' (their statements: YtoanbmggffkmgaaDoorTotals.lean).
  GIVEN WITH THE SEED: the statements are not yours to turn. If you find one false, say at which input.
  Laid BY PROGRAM, IN A SANDBOX (cutbox-rows.mjs): the forced cells as the released guide's own fill.sh prints them over the translation 6e0243e26ebcb4ff… (all of the seat's roots in one cut). By AI agents, Wed Nov 11 2026. No macro, syntax, notation, axiom, sorry.
-/
import Derived.Test.YtoanbmggffkmgaaDoorChecked
import GoSem.PinnedTables
import GoSem.Claim
import GoSem.ClaimJoined
import GoSem.ClaimMapViews
import Derived.JoinedTies
import Derived.KernelRfl
namespace Go.Proofs.YtoanbmggffkmgaaDoor
/- THE CELL 'sum', in the pinned program and in every row, IS THE sha256 OF THE DUMP (.gsa) THAT YtoanbmggffkmgaaDoorProg.lean LOADS. Nothing in Lean hashes anything: it is a label: what it is worth is what the hold of that sum in a sandbox is worth. -/
noncomputable def Tryd.pinned : Pinned := { name := "ytoanbmggffkmgaadoor", sum := "6e0243e26ebcb4ffdcec07eb47d425cbc8fceba4aa7b5117324970c4bd6fb8a9", checked := Tryd.checked }
namespace Rows
def none {H : Type} : Left H := { results := [], args := [] }

/- WHAT THE LISTED PACKAGE-LEVEL VARIABLES READ AS WHEN THE CALL BEGINS. Each datum BY PROGRAM (the guide's laid-datum.mjs) off the statement by which the dump's own 'gosem.cut.vars' lays the variable. In a bare row this is a premise. The card (YtoanbmggffkmgaaDoorCards.lean) ties it to the program's text. -/
def laid_unicode_utf8_acceptRanges {H : Type} : DataW H := .agg [.agg [.lit (.int .u8 128), .lit (.int .u8 191)], .agg [.lit (.int .u8 160), .lit (.int .u8 191)], .agg [.lit (.int .u8 128), .lit (.int .u8 159)], .agg [.lit (.int .u8 144), .lit (.int .u8 191)], .agg [.lit (.int .u8 128), .lit (.int .u8 143)], .agg [.lit (.int .u8 0), .lit (.int .u8 0)], .agg [.lit (.int .u8 0), .lit (.int .u8 0)], .agg [.lit (.int .u8 0), .lit (.int .u8 0)], .agg [.lit (.int .u8 0), .lit (.int .u8 0)], .agg [.lit (.int .u8 0), .lit (.int .u8 0)], .agg [.lit (.int .u8 0), .lit (.int .u8 0)], .agg [.lit (.int .u8 0), .lit (.int .u8 0)], .agg [.lit (.int .u8 0), .lit (.int .u8 0)], .agg [.lit (.int .u8 0), .lit (.int .u8 0)], .agg [.lit (.int .u8 0), .lit (.int .u8 0)], .agg [.lit (.int .u8 0), .lit (.int .u8 0)]]
/-- One of Go's own tables, pinned by name: the form's constant. -/
def laid_unicode_utf8_first : DataW Unit := Go.Pinned.utf8First

/-- 'dragomanlaw7.JlexPlaces': WHATEVER THE INPUT: true; the input reads as it did. -/
def jlexPlacesSpec : ChangeSpec := { name := "jlexPlaces", fn := fun _ => fun
  | [d] => { results := [.lit (.bool true)], args := [d] }
  | _ => none }
def jlexPlacesRow : OpenClaim := { program := "ytoanbmggffkmgaadoor", sum := "6e0243e26ebcb4ffdcec07eb47d425cbc8fceba4aa7b5117324970c4bd6fb8a9", func := "dragoman/dragomanlaw7.JlexPlaces", spec := "jlexPlaces", inPlace := ["internal/bytealg.CountString", "internal/bytealg.IndexByteString", "internal/bytealg.IndexString"], named := ["internal/bytealg.MaxLen", "unicode/utf8.first", "unicode/utf8.acceptRanges"], apart := false, laid := [("unicode/utf8.acceptRanges", laid_unicode_utf8_acceptRanges), ("unicode/utf8.first", laid_unicode_utf8_first)] }
def JlexPlacesSaid : Prop := jlexPlacesRow.holds Tryd.pinned (OpenSpec.ofChange jlexPlacesSpec)

/-- ITS FALSE NEIGHBOUR: 'it returns false'. Refute it at one input. -/
def jlexPlacesWrong : ChangeSpec := { name := "jlexPlaces", fn := fun _ => fun
  | [d] => { results := [.lit (.bool false)], args := [d] }
  | _ => none }
def JlexPlacesWrongFalsely : Prop := jlexPlacesRow.holds Tryd.pinned (OpenSpec.ofChange jlexPlacesWrong)

/-- 'dragomanlaw7.JlexNumbers': WHATEVER THE INPUT: true; the input reads as it did. -/
def jlexNumbersSpec : ChangeSpec := { name := "jlexNumbers", fn := fun _ => fun
  | [d] => { results := [.lit (.bool true)], args := [d] }
  | _ => none }
def jlexNumbersRow : OpenClaim := { program := "ytoanbmggffkmgaadoor", sum := "6e0243e26ebcb4ffdcec07eb47d425cbc8fceba4aa7b5117324970c4bd6fb8a9", func := "dragoman/dragomanlaw7.JlexNumbers", spec := "jlexNumbers", inPlace := ["internal/bytealg.CountString", "internal/bytealg.IndexByteString", "internal/bytealg.IndexString"], named := ["internal/bytealg.MaxLen", "unicode/utf8.first", "unicode/utf8.acceptRanges"], apart := false, laid := [("unicode/utf8.acceptRanges", laid_unicode_utf8_acceptRanges), ("unicode/utf8.first", laid_unicode_utf8_first)] }
def JlexNumbersSaid : Prop := jlexNumbersRow.holds Tryd.pinned (OpenSpec.ofChange jlexNumbersSpec)

/-- ITS FALSE NEIGHBOUR: 'it returns false'. Refute it at one input. -/
def jlexNumbersWrong : ChangeSpec := { name := "jlexNumbers", fn := fun _ => fun
  | [d] => { results := [.lit (.bool false)], args := [d] }
  | _ => none }
def JlexNumbersWrongFalsely : Prop := jlexNumbersRow.holds Tryd.pinned (OpenSpec.ofChange jlexNumbersWrong)

/-- 'dragomanlaw6.EscKnown': WHATEVER THE INPUT: true; the input reads as it did. -/
def escKnownSpec : ChangeSpec := { name := "escKnown", fn := fun _ => fun
  | [] => { results := [.lit (.bool true)], args := [] }
  | _ => none }
def escKnownRow : OpenClaim := { program := "ytoanbmggffkmgaadoor", sum := "6e0243e26ebcb4ffdcec07eb47d425cbc8fceba4aa7b5117324970c4bd6fb8a9", func := "dragoman/dragomanlaw6.EscKnown", spec := "escKnown", inPlace := ["internal/bytealg.IndexByteString", "internal/abi.NoEscape", "internal/bytealg.MakeNoZero", "internal/bytealg.IndexString"], named := ["unicode/utf8.first", "unicode/utf8.acceptRanges", "internal/bytealg.MaxLen"], apart := false, laid := [("unicode/utf8.acceptRanges", laid_unicode_utf8_acceptRanges), ("unicode/utf8.first", laid_unicode_utf8_first)] }
def EscKnownSaid : Prop := escKnownRow.holds Tryd.pinned (OpenSpec.ofChange escKnownSpec)

/-- ITS FALSE NEIGHBOUR: 'it returns false'. Refute it at one input. -/
def escKnownWrong : ChangeSpec := { name := "escKnown", fn := fun _ => fun
  | [] => { results := [.lit (.bool false)], args := [] }
  | _ => none }
def EscKnownWrongFalsely : Prop := escKnownRow.holds Tryd.pinned (OpenSpec.ofChange escKnownWrong)

/-- 'dragomanlaw6.EscWrites': WHATEVER THE INPUT: true; the input reads as it did. -/
def escWritesSpec : ChangeSpec := { name := "escWrites", fn := fun _ => fun
  | [d1, d2] => { results := [.lit (.bool true)], args := [d1, d2] }
  | _ => none }
def escWritesRow : OpenClaim := { program := "ytoanbmggffkmgaadoor", sum := "6e0243e26ebcb4ffdcec07eb47d425cbc8fceba4aa7b5117324970c4bd6fb8a9", func := "dragoman/dragomanlaw6.EscWrites", spec := "escWrites", inPlace := ["internal/bytealg.IndexByteString", "internal/abi.NoEscape", "internal/bytealg.MakeNoZero", "internal/bytealg.IndexString"], named := ["unicode/utf8.first", "unicode/utf8.acceptRanges", "internal/bytealg.MaxLen"], apart := false, laid := [("unicode/utf8.acceptRanges", laid_unicode_utf8_acceptRanges), ("unicode/utf8.first", laid_unicode_utf8_first)] }
def EscWritesSaid : Prop := escWritesRow.holds Tryd.pinned (OpenSpec.ofChange escWritesSpec)

/-- ITS FALSE NEIGHBOUR: 'it returns false'. Refute it at one input. -/
def escWritesWrong : ChangeSpec := { name := "escWrites", fn := fun _ => fun
  | [d1, d2] => { results := [.lit (.bool false)], args := [d1, d2] }
  | _ => none }
def EscWritesWrongFalsely : Prop := escWritesRow.holds Tryd.pinned (OpenSpec.ofChange escWritesWrong)

/-- 'dragomanlaw6.EscEvery': WHATEVER THE INPUT: true; the input reads as it did. -/
def escEverySpec : ChangeSpec := { name := "escEvery", fn := fun _ => fun
  | [d] => { results := [.lit (.bool true)], args := [d] }
  | _ => none }
def escEveryRow : OpenClaim := { program := "ytoanbmggffkmgaadoor", sum := "6e0243e26ebcb4ffdcec07eb47d425cbc8fceba4aa7b5117324970c4bd6fb8a9", func := "dragoman/dragomanlaw6.EscEvery", spec := "escEvery", inPlace := ["internal/bytealg.IndexByteString", "internal/abi.NoEscape", "internal/bytealg.MakeNoZero", "internal/bytealg.IndexString"], named := ["unicode/utf8.first", "unicode/utf8.acceptRanges", "internal/bytealg.MaxLen"], apart := false, laid := [("unicode/utf8.acceptRanges", laid_unicode_utf8_acceptRanges), ("unicode/utf8.first", laid_unicode_utf8_first)] }
def EscEverySaid : Prop := escEveryRow.holds Tryd.pinned (OpenSpec.ofChange escEverySpec)

/-- ITS FALSE NEIGHBOUR: 'it returns false'. Refute it at one input. -/
def escEveryWrong : ChangeSpec := { name := "escEvery", fn := fun _ => fun
  | [d] => { results := [.lit (.bool false)], args := [d] }
  | _ => none }
def EscEveryWrongFalsely : Prop := escEveryRow.holds Tryd.pinned (OpenSpec.ofChange escEveryWrong)

/-- 'dragomanlaw6.EscCuts': WHATEVER THE INPUT: true; the input reads as it did. -/
def escCutsSpec : ChangeSpec := { name := "escCuts", fn := fun _ => fun
  | [d1, d2] => { results := [.lit (.bool true)], args := [d1, d2] }
  | _ => none }
def escCutsRow : OpenClaim := { program := "ytoanbmggffkmgaadoor", sum := "6e0243e26ebcb4ffdcec07eb47d425cbc8fceba4aa7b5117324970c4bd6fb8a9", func := "dragoman/dragomanlaw6.EscCuts", spec := "escCuts", inPlace := ["internal/bytealg.IndexByteString", "internal/abi.NoEscape", "internal/bytealg.MakeNoZero", "internal/bytealg.IndexString"], named := ["unicode/utf8.first", "unicode/utf8.acceptRanges", "internal/bytealg.MaxLen"], apart := false, laid := [("unicode/utf8.acceptRanges", laid_unicode_utf8_acceptRanges), ("unicode/utf8.first", laid_unicode_utf8_first)] }
def EscCutsSaid : Prop := escCutsRow.holds Tryd.pinned (OpenSpec.ofChange escCutsSpec)

/-- ITS FALSE NEIGHBOUR: 'it returns false'. Refute it at one input. -/
def escCutsWrong : ChangeSpec := { name := "escCuts", fn := fun _ => fun
  | [d1, d2] => { results := [.lit (.bool false)], args := [d1, d2] }
  | _ => none }
def EscCutsWrongFalsely : Prop := escCutsRow.holds Tryd.pinned (OpenSpec.ofChange escCutsWrong)

/-- 'dragomanlaw7.JlexKnown': WHATEVER THE INPUT: true; the input reads as it did. -/
def jlexKnownSpec : ChangeSpec := { name := "jlexKnown", fn := fun _ => fun
  | [] => { results := [.lit (.bool true)], args := [] }
  | _ => none }
def jlexKnownRow : OpenClaim := { program := "ytoanbmggffkmgaadoor", sum := "6e0243e26ebcb4ffdcec07eb47d425cbc8fceba4aa7b5117324970c4bd6fb8a9", func := "dragoman/dragomanlaw7.JlexKnown", spec := "jlexKnown", inPlace := ["internal/bytealg.CountString", "internal/bytealg.IndexByteString", "internal/bytealg.IndexString"], named := ["internal/bytealg.MaxLen", "unicode/utf8.first", "unicode/utf8.acceptRanges"], apart := false, laid := [("unicode/utf8.acceptRanges", laid_unicode_utf8_acceptRanges), ("unicode/utf8.first", laid_unicode_utf8_first)] }
def JlexKnownSaid : Prop := jlexKnownRow.holds Tryd.pinned (OpenSpec.ofChange jlexKnownSpec)

/-- ITS FALSE NEIGHBOUR: 'it returns false'. Refute it at one input. -/
def jlexKnownWrong : ChangeSpec := { name := "jlexKnown", fn := fun _ => fun
  | [] => { results := [.lit (.bool false)], args := [] }
  | _ => none }
def JlexKnownWrongFalsely : Prop := jlexKnownRow.holds Tryd.pinned (OpenSpec.ofChange jlexKnownWrong)

/-- 'dragomanlaw7.JlexCuts': WHATEVER THE INPUT: true; the input reads as it did. -/
def jlexCutsSpec : ChangeSpec := { name := "jlexCuts", fn := fun _ => fun
  | [d] => { results := [.lit (.bool true)], args := [d] }
  | _ => none }
def jlexCutsRow : OpenClaim := { program := "ytoanbmggffkmgaadoor", sum := "6e0243e26ebcb4ffdcec07eb47d425cbc8fceba4aa7b5117324970c4bd6fb8a9", func := "dragoman/dragomanlaw7.JlexCuts", spec := "jlexCuts", inPlace := ["internal/bytealg.CountString", "internal/bytealg.IndexByteString", "internal/bytealg.IndexString"], named := ["internal/bytealg.MaxLen", "unicode/utf8.first", "unicode/utf8.acceptRanges"], apart := false, laid := [("unicode/utf8.acceptRanges", laid_unicode_utf8_acceptRanges), ("unicode/utf8.first", laid_unicode_utf8_first)] }
def JlexCutsSaid : Prop := jlexCutsRow.holds Tryd.pinned (OpenSpec.ofChange jlexCutsSpec)

/-- ITS FALSE NEIGHBOUR: 'it returns false'. Refute it at one input. -/
def jlexCutsWrong : ChangeSpec := { name := "jlexCuts", fn := fun _ => fun
  | [d] => { results := [.lit (.bool false)], args := [d] }
  | _ => none }
def JlexCutsWrongFalsely : Prop := jlexCutsRow.holds Tryd.pinned (OpenSpec.ofChange jlexCutsWrong)

/-- 'dragomanlaw7.JlexBlanks': WHATEVER THE INPUT: true; the input reads as it did. -/
def jlexBlanksSpec : ChangeSpec := { name := "jlexBlanks", fn := fun _ => fun
  | [d] => { results := [.lit (.bool true)], args := [d] }
  | _ => none }
def jlexBlanksRow : OpenClaim := { program := "ytoanbmggffkmgaadoor", sum := "6e0243e26ebcb4ffdcec07eb47d425cbc8fceba4aa7b5117324970c4bd6fb8a9", func := "dragoman/dragomanlaw7.JlexBlanks", spec := "jlexBlanks", inPlace := ["internal/bytealg.CountString", "internal/bytealg.IndexByteString", "internal/bytealg.IndexString"], named := ["internal/bytealg.MaxLen", "unicode/utf8.first", "unicode/utf8.acceptRanges"], apart := false, laid := [("unicode/utf8.acceptRanges", laid_unicode_utf8_acceptRanges), ("unicode/utf8.first", laid_unicode_utf8_first)] }
def JlexBlanksSaid : Prop := jlexBlanksRow.holds Tryd.pinned (OpenSpec.ofChange jlexBlanksSpec)

/-- ITS FALSE NEIGHBOUR: 'it returns false'. Refute it at one input. -/
def jlexBlanksWrong : ChangeSpec := { name := "jlexBlanks", fn := fun _ => fun
  | [d] => { results := [.lit (.bool false)], args := [d] }
  | _ => none }
def JlexBlanksWrongFalsely : Prop := jlexBlanksRow.holds Tryd.pinned (OpenSpec.ofChange jlexBlanksWrong)

/- THE SECOND FORM. 'bulk': how many values and letters a reading holds, each counted each time it is reached (what is shared counts as often as it is met; a slice's spare places count too). A statement '..UptoSaid' is the law's where the arguments, and the package variables that the reading takes, are together of bulk at most 1048576: NARROWER than '..Said'. Prove '..Said' where nothing that the law and all that it calls make is longer than what came in: it says more and counts as full. Else prove '..UptoSaid'. A law counts once. -/
mutual
def uptoBulk {H : Type} : DataW H → Nat
  | .lit (.string bytes) => bytes.length + 1
  | .lit _ => 1
  | .nil => 1
  | .ptr d => uptoBulk d + 1
  | .slice elems spare => uptoBulkAll elems + uptoBulkAll spare + 1
  | .agg parts => uptoBulkAll parts + 1
  | .iface _ d => uptoBulk d + 1
  | .map entries => uptoBulkEntries entries + 1
  | .held _ => 1
def uptoBulkAll {H : Type} : List (DataW H) → Nat
  | [] => 0
  | d :: r => uptoBulk d + uptoBulkAll r
def uptoBulkEntries {H : Type} : List (Lit × DataW H) → Nat
  | [] => 0
  | x :: r => uptoBulkEntry x + uptoBulkEntries r
def uptoBulkEntry {H : Type} : Lit × DataW H → Nat
  | (.string bytes, d) => bytes.length + uptoBulk d + 1
  | (_, d) => uptoBulk d + 1
 end
def uptoSmall : (H : Type) → List (DataW H) → Bool := fun _ ds => decide (uptoBulkAll ds ≤ 1048576)
def OpenSpec.upto (s : _root_.Go.ChangeSpec) : _root_.Go.OpenSpec := { _root_.Go.OpenSpec.ofChange s with cond := some uptoSmall }

/-- 'dragomanlaw7.JlexPlaces', WHERE WHAT IT READS IS OF BULK AT MOST 1048576: true; the input reads as it did. -/
def jlexPlacesUptoRow : OpenClaim := { program := "ytoanbmggffkmgaadoor", sum := "6e0243e26ebcb4ffdcec07eb47d425cbc8fceba4aa7b5117324970c4bd6fb8a9", func := "dragoman/dragomanlaw7.JlexPlaces", spec := "jlexPlaces", inPlace := ["internal/bytealg.CountString", "internal/bytealg.IndexByteString", "internal/bytealg.IndexString"], named := ["internal/bytealg.MaxLen", "unicode/utf8.first", "unicode/utf8.acceptRanges"], apart := false, laid := [("unicode/utf8.acceptRanges", laid_unicode_utf8_acceptRanges), ("unicode/utf8.first", laid_unicode_utf8_first)], narrowed := true }
def JlexPlacesUptoSaid : Prop := jlexPlacesUptoRow.holds Tryd.pinned (OpenSpec.upto jlexPlacesSpec)

/-- 'dragomanlaw7.JlexNumbers', WHERE WHAT IT READS IS OF BULK AT MOST 1048576: true; the input reads as it did. -/
def jlexNumbersUptoRow : OpenClaim := { program := "ytoanbmggffkmgaadoor", sum := "6e0243e26ebcb4ffdcec07eb47d425cbc8fceba4aa7b5117324970c4bd6fb8a9", func := "dragoman/dragomanlaw7.JlexNumbers", spec := "jlexNumbers", inPlace := ["internal/bytealg.CountString", "internal/bytealg.IndexByteString", "internal/bytealg.IndexString"], named := ["internal/bytealg.MaxLen", "unicode/utf8.first", "unicode/utf8.acceptRanges"], apart := false, laid := [("unicode/utf8.acceptRanges", laid_unicode_utf8_acceptRanges), ("unicode/utf8.first", laid_unicode_utf8_first)], narrowed := true }
def JlexNumbersUptoSaid : Prop := jlexNumbersUptoRow.holds Tryd.pinned (OpenSpec.upto jlexNumbersSpec)

/-- 'dragomanlaw6.EscKnown', WHERE WHAT IT READS IS OF BULK AT MOST 1048576: true; the input reads as it did. -/
def escKnownUptoRow : OpenClaim := { program := "ytoanbmggffkmgaadoor", sum := "6e0243e26ebcb4ffdcec07eb47d425cbc8fceba4aa7b5117324970c4bd6fb8a9", func := "dragoman/dragomanlaw6.EscKnown", spec := "escKnown", inPlace := ["internal/bytealg.IndexByteString", "internal/abi.NoEscape", "internal/bytealg.MakeNoZero", "internal/bytealg.IndexString"], named := ["unicode/utf8.first", "unicode/utf8.acceptRanges", "internal/bytealg.MaxLen"], apart := false, laid := [("unicode/utf8.acceptRanges", laid_unicode_utf8_acceptRanges), ("unicode/utf8.first", laid_unicode_utf8_first)], narrowed := true }
def EscKnownUptoSaid : Prop := escKnownUptoRow.holds Tryd.pinned (OpenSpec.upto escKnownSpec)

/-- 'dragomanlaw6.EscWrites', WHERE WHAT IT READS IS OF BULK AT MOST 1048576: true; the input reads as it did. -/
def escWritesUptoRow : OpenClaim := { program := "ytoanbmggffkmgaadoor", sum := "6e0243e26ebcb4ffdcec07eb47d425cbc8fceba4aa7b5117324970c4bd6fb8a9", func := "dragoman/dragomanlaw6.EscWrites", spec := "escWrites", inPlace := ["internal/bytealg.IndexByteString", "internal/abi.NoEscape", "internal/bytealg.MakeNoZero", "internal/bytealg.IndexString"], named := ["unicode/utf8.first", "unicode/utf8.acceptRanges", "internal/bytealg.MaxLen"], apart := false, laid := [("unicode/utf8.acceptRanges", laid_unicode_utf8_acceptRanges), ("unicode/utf8.first", laid_unicode_utf8_first)], narrowed := true }
def EscWritesUptoSaid : Prop := escWritesUptoRow.holds Tryd.pinned (OpenSpec.upto escWritesSpec)

/-- 'dragomanlaw6.EscEvery', WHERE WHAT IT READS IS OF BULK AT MOST 1048576: true; the input reads as it did. -/
def escEveryUptoRow : OpenClaim := { program := "ytoanbmggffkmgaadoor", sum := "6e0243e26ebcb4ffdcec07eb47d425cbc8fceba4aa7b5117324970c4bd6fb8a9", func := "dragoman/dragomanlaw6.EscEvery", spec := "escEvery", inPlace := ["internal/bytealg.IndexByteString", "internal/abi.NoEscape", "internal/bytealg.MakeNoZero", "internal/bytealg.IndexString"], named := ["unicode/utf8.first", "unicode/utf8.acceptRanges", "internal/bytealg.MaxLen"], apart := false, laid := [("unicode/utf8.acceptRanges", laid_unicode_utf8_acceptRanges), ("unicode/utf8.first", laid_unicode_utf8_first)], narrowed := true }
def EscEveryUptoSaid : Prop := escEveryUptoRow.holds Tryd.pinned (OpenSpec.upto escEverySpec)

/-- 'dragomanlaw6.EscCuts', WHERE WHAT IT READS IS OF BULK AT MOST 1048576: true; the input reads as it did. -/
def escCutsUptoRow : OpenClaim := { program := "ytoanbmggffkmgaadoor", sum := "6e0243e26ebcb4ffdcec07eb47d425cbc8fceba4aa7b5117324970c4bd6fb8a9", func := "dragoman/dragomanlaw6.EscCuts", spec := "escCuts", inPlace := ["internal/bytealg.IndexByteString", "internal/abi.NoEscape", "internal/bytealg.MakeNoZero", "internal/bytealg.IndexString"], named := ["unicode/utf8.first", "unicode/utf8.acceptRanges", "internal/bytealg.MaxLen"], apart := false, laid := [("unicode/utf8.acceptRanges", laid_unicode_utf8_acceptRanges), ("unicode/utf8.first", laid_unicode_utf8_first)], narrowed := true }
def EscCutsUptoSaid : Prop := escCutsUptoRow.holds Tryd.pinned (OpenSpec.upto escCutsSpec)

/-- 'dragomanlaw7.JlexKnown', WHERE WHAT IT READS IS OF BULK AT MOST 1048576: true; the input reads as it did. -/
def jlexKnownUptoRow : OpenClaim := { program := "ytoanbmggffkmgaadoor", sum := "6e0243e26ebcb4ffdcec07eb47d425cbc8fceba4aa7b5117324970c4bd6fb8a9", func := "dragoman/dragomanlaw7.JlexKnown", spec := "jlexKnown", inPlace := ["internal/bytealg.CountString", "internal/bytealg.IndexByteString", "internal/bytealg.IndexString"], named := ["internal/bytealg.MaxLen", "unicode/utf8.first", "unicode/utf8.acceptRanges"], apart := false, laid := [("unicode/utf8.acceptRanges", laid_unicode_utf8_acceptRanges), ("unicode/utf8.first", laid_unicode_utf8_first)], narrowed := true }
def JlexKnownUptoSaid : Prop := jlexKnownUptoRow.holds Tryd.pinned (OpenSpec.upto jlexKnownSpec)

/-- 'dragomanlaw7.JlexCuts', WHERE WHAT IT READS IS OF BULK AT MOST 1048576: true; the input reads as it did. -/
def jlexCutsUptoRow : OpenClaim := { program := "ytoanbmggffkmgaadoor", sum := "6e0243e26ebcb4ffdcec07eb47d425cbc8fceba4aa7b5117324970c4bd6fb8a9", func := "dragoman/dragomanlaw7.JlexCuts", spec := "jlexCuts", inPlace := ["internal/bytealg.CountString", "internal/bytealg.IndexByteString", "internal/bytealg.IndexString"], named := ["internal/bytealg.MaxLen", "unicode/utf8.first", "unicode/utf8.acceptRanges"], apart := false, laid := [("unicode/utf8.acceptRanges", laid_unicode_utf8_acceptRanges), ("unicode/utf8.first", laid_unicode_utf8_first)], narrowed := true }
def JlexCutsUptoSaid : Prop := jlexCutsUptoRow.holds Tryd.pinned (OpenSpec.upto jlexCutsSpec)

/-- 'dragomanlaw7.JlexBlanks', WHERE WHAT IT READS IS OF BULK AT MOST 1048576: true; the input reads as it did. -/
def jlexBlanksUptoRow : OpenClaim := { program := "ytoanbmggffkmgaadoor", sum := "6e0243e26ebcb4ffdcec07eb47d425cbc8fceba4aa7b5117324970c4bd6fb8a9", func := "dragoman/dragomanlaw7.JlexBlanks", spec := "jlexBlanks", inPlace := ["internal/bytealg.CountString", "internal/bytealg.IndexByteString", "internal/bytealg.IndexString"], named := ["internal/bytealg.MaxLen", "unicode/utf8.first", "unicode/utf8.acceptRanges"], apart := false, laid := [("unicode/utf8.acceptRanges", laid_unicode_utf8_acceptRanges), ("unicode/utf8.first", laid_unicode_utf8_first)], narrowed := true }
def JlexBlanksUptoSaid : Prop := jlexBlanksUptoRow.holds Tryd.pinned (OpenSpec.upto jlexBlanksSpec)

end Rows
end Go.Proofs.YtoanbmggffkmgaaDoor
