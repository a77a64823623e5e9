/-
  No cell of these rows narrows 'for every input' (looked for: loops, veiled, ifaces, maps, wideKeys, modest, calm, conditions, laid).
  DERIVED. THE GIVEN ROWS OF THIS SEAT. 9 by the template 'for every input the law returns true; each argument reads behind the call as it read before'; 0 by the template 'total and deterministic' (their statements: YtagjfnjfhflahaaTotals.lean).
  GIVEN WITH THE SEED: the statements are not yours to turn. If you find one false, say at which input.
  Laid BY PROGRAM, IN A SANDBOX (cutbox-rows.mjs): the forced cells as the released guide's own fill.sh prints them over the translation ca0861688cabf8d4… (all of the seat's roots in one cut). By AI agents, Wed Nov 11 2026. No macro, syntax, notation, axiom, sorry.
-/
import Derived.Test.YtagjfnjfhflahaaChecked
import GoSem.Claim
import GoSem.ClaimJoined
import GoSem.ClaimMapViews
import Derived.JoinedTies
import Derived.KernelRfl
namespace Go.Proofs.Ytagjfnjfhflahaa
/- THE CELL 'sum', in the pinned program and in every row, IS THE sha256 OF THE DUMP (.gsa) THAT YtagjfnjfhflahaaProg.lean LOADS. Nothing in Lean hashes anything: it is a label: what it is worth is what the hold of that sum in a sandbox is worth. -/
noncomputable def Try.pinned : Pinned := { name := "ytagjfnjfhflahaa", sum := "ca0861688cabf8d4b95266b3b4a12ec746866f7f54bf842f7a782cc8ac7aa126", checked := Try.checked }
namespace Rows
def none {H : Type} : Left H := { results := [], args := [] }

/-- 'dragomanlaw1.UtfKnown': WHATEVER THE INPUT: true; the input reads as it did. -/
def utfKnownSpec : ChangeSpec := { name := "utfKnown", fn := fun _ => fun
  | [] => { results := [.lit (.bool true)], args := [] }
  | _ => none }
def utfKnownRow : OpenClaim := { program := "ytagjfnjfhflahaa", sum := "ca0861688cabf8d4b95266b3b4a12ec746866f7f54bf842f7a782cc8ac7aa126", func := "dragoman/dragomanlaw1.UtfKnown", spec := "utfKnown", apart := false }
def UtfKnownSaid : Prop := utfKnownRow.holds Try.pinned (OpenSpec.ofChange utfKnownSpec)

/-- ITS FALSE NEIGHBOUR: 'it returns false'. Refute it at one input. -/
def utfKnownWrong : ChangeSpec := { name := "utfKnown", fn := fun _ => fun
  | [] => { results := [.lit (.bool false)], args := [] }
  | _ => none }
def UtfKnownWrongFalsely : Prop := utfKnownRow.holds Try.pinned (OpenSpec.ofChange utfKnownWrong)

/-- 'dragomanlaw1.UtfReads': WHATEVER THE INPUT: true; the input reads as it did. -/
def utfReadsSpec : ChangeSpec := { name := "utfReads", fn := fun _ => fun
  | [d1, d2] => { results := [.lit (.bool true)], args := [d1, d2] }
  | _ => none }
def utfReadsRow : OpenClaim := { program := "ytagjfnjfhflahaa", sum := "ca0861688cabf8d4b95266b3b4a12ec746866f7f54bf842f7a782cc8ac7aa126", func := "dragoman/dragomanlaw1.UtfReads", spec := "utfReads", apart := false }
def UtfReadsSaid : Prop := utfReadsRow.holds Try.pinned (OpenSpec.ofChange utfReadsSpec)

/-- ITS FALSE NEIGHBOUR: 'it returns false'. Refute it at one input. -/
def utfReadsWrong : ChangeSpec := { name := "utfReads", fn := fun _ => fun
  | [d1, d2] => { results := [.lit (.bool false)], args := [d1, d2] }
  | _ => none }
def UtfReadsWrongFalsely : Prop := utfReadsRow.holds Try.pinned (OpenSpec.ofChange utfReadsWrong)

/-- 'dragomanlaw1.UtfWrites': WHATEVER THE INPUT: true; the input reads as it did. -/
def utfWritesSpec : ChangeSpec := { name := "utfWrites", fn := fun _ => fun
  | [d1, d2, d3] => { results := [.lit (.bool true)], args := [d1, d2, d3] }
  | _ => none }
def utfWritesRow : OpenClaim := { program := "ytagjfnjfhflahaa", sum := "ca0861688cabf8d4b95266b3b4a12ec746866f7f54bf842f7a782cc8ac7aa126", func := "dragoman/dragomanlaw1.UtfWrites", spec := "utfWrites", apart := false }
def UtfWritesSaid : Prop := utfWritesRow.holds Try.pinned (OpenSpec.ofChange utfWritesSpec)

/-- ITS FALSE NEIGHBOUR: 'it returns false'. Refute it at one input. -/
def utfWritesWrong : ChangeSpec := { name := "utfWrites", fn := fun _ => fun
  | [d1, d2, d3] => { results := [.lit (.bool false)], args := [d1, d2, d3] }
  | _ => none }
def UtfWritesWrongFalsely : Prop := utfWritesRow.holds Try.pinned (OpenSpec.ofChange utfWritesWrong)

/-- 'dragomanlaw1.UtfJoins': WHATEVER THE INPUT: true; the input reads as it did. -/
def utfJoinsSpec : ChangeSpec := { name := "utfJoins", fn := fun _ => fun
  | [d1, d2, d3] => { results := [.lit (.bool true)], args := [d1, d2, d3] }
  | _ => none }
def utfJoinsRow : OpenClaim := { program := "ytagjfnjfhflahaa", sum := "ca0861688cabf8d4b95266b3b4a12ec746866f7f54bf842f7a782cc8ac7aa126", func := "dragoman/dragomanlaw1.UtfJoins", spec := "utfJoins", apart := false }
def UtfJoinsSaid : Prop := utfJoinsRow.holds Try.pinned (OpenSpec.ofChange utfJoinsSpec)

/-- ITS FALSE NEIGHBOUR: 'it returns false'. Refute it at one input. -/
def utfJoinsWrong : ChangeSpec := { name := "utfJoins", fn := fun _ => fun
  | [d1, d2, d3] => { results := [.lit (.bool false)], args := [d1, d2, d3] }
  | _ => none }
def UtfJoinsWrongFalsely : Prop := utfJoinsRow.holds Try.pinned (OpenSpec.ofChange utfJoinsWrong)

/-- 'dragomanlaw1.UtfOrder': WHATEVER THE INPUT: true; the input reads as it did. -/
def utfOrderSpec : ChangeSpec := { name := "utfOrder", fn := fun _ => fun
  | [d1, d2] => { results := [.lit (.bool true)], args := [d1, d2] }
  | _ => none }
def utfOrderRow : OpenClaim := { program := "ytagjfnjfhflahaa", sum := "ca0861688cabf8d4b95266b3b4a12ec746866f7f54bf842f7a782cc8ac7aa126", func := "dragoman/dragomanlaw1.UtfOrder", spec := "utfOrder", apart := false }
def UtfOrderSaid : Prop := utfOrderRow.holds Try.pinned (OpenSpec.ofChange utfOrderSpec)

/-- ITS FALSE NEIGHBOUR: 'it returns false'. Refute it at one input. -/
def utfOrderWrong : ChangeSpec := { name := "utfOrder", fn := fun _ => fun
  | [d1, d2] => { results := [.lit (.bool false)], args := [d1, d2] }
  | _ => none }
def UtfOrderWrongFalsely : Prop := utfOrderRow.holds Try.pinned (OpenSpec.ofChange utfOrderWrong)

/-- 'dragomanlaw2.PlaceKnown': WHATEVER THE INPUT: true; the input reads as it did. -/
def placeKnownSpec : ChangeSpec := { name := "placeKnown", fn := fun _ => fun
  | [] => { results := [.lit (.bool true)], args := [] }
  | _ => none }
def placeKnownRow : OpenClaim := { program := "ytagjfnjfhflahaa", sum := "ca0861688cabf8d4b95266b3b4a12ec746866f7f54bf842f7a782cc8ac7aa126", func := "dragoman/dragomanlaw2.PlaceKnown", spec := "placeKnown", inPlace := ["internal/bytealg.CountString", "internal/bytealg.IndexByteString", "internal/bytealg.IndexString"], named := ["internal/bytealg.MaxLen"], apart := false }
def PlaceKnownSaid : Prop := placeKnownRow.holds Try.pinned (OpenSpec.ofChange placeKnownSpec)

/-- ITS FALSE NEIGHBOUR: 'it returns false'. Refute it at one input. -/
def placeKnownWrong : ChangeSpec := { name := "placeKnown", fn := fun _ => fun
  | [] => { results := [.lit (.bool false)], args := [] }
  | _ => none }
def PlaceKnownWrongFalsely : Prop := placeKnownRow.holds Try.pinned (OpenSpec.ofChange placeKnownWrong)

/-- 'dragomanlaw2.PlaceSays': WHATEVER THE INPUT: true; the input reads as it did. -/
def placeSaysSpec : ChangeSpec := { name := "placeSays", fn := fun _ => fun
  | [d1, d2, d3, d4] => { results := [.lit (.bool true)], args := [d1, d2, d3, d4] }
  | _ => none }
def placeSaysRow : OpenClaim := { program := "ytagjfnjfhflahaa", sum := "ca0861688cabf8d4b95266b3b4a12ec746866f7f54bf842f7a782cc8ac7aa126", func := "dragoman/dragomanlaw2.PlaceSays", spec := "placeSays", inPlace := ["internal/bytealg.CountString", "internal/bytealg.IndexByteString", "internal/bytealg.IndexString"], named := ["internal/bytealg.MaxLen"], apart := false }
def PlaceSaysSaid : Prop := placeSaysRow.holds Try.pinned (OpenSpec.ofChange placeSaysSpec)

/-- ITS FALSE NEIGHBOUR: 'it returns false'. Refute it at one input. -/
def placeSaysWrong : ChangeSpec := { name := "placeSays", fn := fun _ => fun
  | [d1, d2, d3, d4] => { results := [.lit (.bool false)], args := [d1, d2, d3, d4] }
  | _ => none }
def PlaceSaysWrongFalsely : Prop := placeSaysRow.holds Try.pinned (OpenSpec.ofChange placeSaysWrong)

/-- 'dragomanlaw2.PlaceBack': WHATEVER THE INPUT: true; the input reads as it did. -/
def placeBackSpec : ChangeSpec := { name := "placeBack", fn := fun _ => fun
  | [d1, d2] => { results := [.lit (.bool true)], args := [d1, d2] }
  | _ => none }
def placeBackRow : OpenClaim := { program := "ytagjfnjfhflahaa", sum := "ca0861688cabf8d4b95266b3b4a12ec746866f7f54bf842f7a782cc8ac7aa126", func := "dragoman/dragomanlaw2.PlaceBack", spec := "placeBack", inPlace := ["internal/bytealg.CountString", "internal/bytealg.IndexByteString", "internal/bytealg.IndexString"], named := ["internal/bytealg.MaxLen"], apart := false }
def PlaceBackSaid : Prop := placeBackRow.holds Try.pinned (OpenSpec.ofChange placeBackSpec)

/-- ITS FALSE NEIGHBOUR: 'it returns false'. Refute it at one input. -/
def placeBackWrong : ChangeSpec := { name := "placeBack", fn := fun _ => fun
  | [d1, d2] => { results := [.lit (.bool false)], args := [d1, d2] }
  | _ => none }
def PlaceBackWrongFalsely : Prop := placeBackRow.holds Try.pinned (OpenSpec.ofChange placeBackWrong)

/-- 'dragomanlaw2.PlaceSteps': WHATEVER THE INPUT: true; the input reads as it did. -/
def placeStepsSpec : ChangeSpec := { name := "placeSteps", fn := fun _ => fun
  | [d] => { results := [.lit (.bool true)], args := [d] }
  | _ => none }
def placeStepsRow : OpenClaim := { program := "ytagjfnjfhflahaa", sum := "ca0861688cabf8d4b95266b3b4a12ec746866f7f54bf842f7a782cc8ac7aa126", func := "dragoman/dragomanlaw2.PlaceSteps", spec := "placeSteps", inPlace := ["internal/bytealg.CountString", "internal/bytealg.IndexByteString", "internal/bytealg.IndexString"], named := ["internal/bytealg.MaxLen"], apart := false }
def PlaceStepsSaid : Prop := placeStepsRow.holds Try.pinned (OpenSpec.ofChange placeStepsSpec)

/-- ITS FALSE NEIGHBOUR: 'it returns false'. Refute it at one input. -/
def placeStepsWrong : ChangeSpec := { name := "placeSteps", fn := fun _ => fun
  | [d] => { results := [.lit (.bool false)], args := [d] }
  | _ => none }
def PlaceStepsWrongFalsely : Prop := placeStepsRow.holds Try.pinned (OpenSpec.ofChange placeStepsWrong)

/- THE SECOND FORM. 'bulk': how many values and letters a reading holds, each counted each time it is reached (what is shared counts as often as it is met; a slice's spare places count too). A statement '..UptoSaid' is the law's where the arguments, and the package variables that the reading takes, are together of bulk at most 1048576: NARROWER than '..Said'. Prove '..Said' where nothing that the law and all that it calls make is longer than what came in: it says more and counts as full. Else prove '..UptoSaid'. A law counts once. -/
mutual
def uptoBulk {H : Type} : DataW H → Nat
  | .lit (.string bytes) => bytes.length + 1
  | .lit _ => 1
  | .nil => 1
  | .ptr d => uptoBulk d + 1
  | .slice elems spare => uptoBulkAll elems + uptoBulkAll spare + 1
  | .agg parts => uptoBulkAll parts + 1
  | .iface _ d => uptoBulk d + 1
  | .map entries => uptoBulkEntries entries + 1
  | .held _ => 1
def uptoBulkAll {H : Type} : List (DataW H) → Nat
  | [] => 0
  | d :: r => uptoBulk d + uptoBulkAll r
def uptoBulkEntries {H : Type} : List (Lit × DataW H) → Nat
  | [] => 0
  | x :: r => uptoBulkEntry x + uptoBulkEntries r
def uptoBulkEntry {H : Type} : Lit × DataW H → Nat
  | (.string bytes, d) => bytes.length + uptoBulk d + 1
  | (_, d) => uptoBulk d + 1
 end
def uptoSmall : (H : Type) → List (DataW H) → Bool := fun _ ds => decide (uptoBulkAll ds ≤ 1048576)
def OpenSpec.upto (s : _root_.Go.ChangeSpec) : _root_.Go.OpenSpec := { _root_.Go.OpenSpec.ofChange s with cond := some uptoSmall }

/-- 'dragomanlaw1.UtfKnown', WHERE WHAT IT READS IS OF BULK AT MOST 1048576: true; the input reads as it did. -/
def utfKnownUptoRow : OpenClaim := { program := "ytagjfnjfhflahaa", sum := "ca0861688cabf8d4b95266b3b4a12ec746866f7f54bf842f7a782cc8ac7aa126", func := "dragoman/dragomanlaw1.UtfKnown", spec := "utfKnown", apart := false, narrowed := true }
def UtfKnownUptoSaid : Prop := utfKnownUptoRow.holds Try.pinned (OpenSpec.upto utfKnownSpec)

/-- 'dragomanlaw1.UtfReads', WHERE WHAT IT READS IS OF BULK AT MOST 1048576: true; the input reads as it did. -/
def utfReadsUptoRow : OpenClaim := { program := "ytagjfnjfhflahaa", sum := "ca0861688cabf8d4b95266b3b4a12ec746866f7f54bf842f7a782cc8ac7aa126", func := "dragoman/dragomanlaw1.UtfReads", spec := "utfReads", apart := false, narrowed := true }
def UtfReadsUptoSaid : Prop := utfReadsUptoRow.holds Try.pinned (OpenSpec.upto utfReadsSpec)

/-- 'dragomanlaw1.UtfWrites', WHERE WHAT IT READS IS OF BULK AT MOST 1048576: true; the input reads as it did. -/
def utfWritesUptoRow : OpenClaim := { program := "ytagjfnjfhflahaa", sum := "ca0861688cabf8d4b95266b3b4a12ec746866f7f54bf842f7a782cc8ac7aa126", func := "dragoman/dragomanlaw1.UtfWrites", spec := "utfWrites", apart := false, narrowed := true }
def UtfWritesUptoSaid : Prop := utfWritesUptoRow.holds Try.pinned (OpenSpec.upto utfWritesSpec)

/-- 'dragomanlaw1.UtfJoins', WHERE WHAT IT READS IS OF BULK AT MOST 1048576: true; the input reads as it did. -/
def utfJoinsUptoRow : OpenClaim := { program := "ytagjfnjfhflahaa", sum := "ca0861688cabf8d4b95266b3b4a12ec746866f7f54bf842f7a782cc8ac7aa126", func := "dragoman/dragomanlaw1.UtfJoins", spec := "utfJoins", apart := false, narrowed := true }
def UtfJoinsUptoSaid : Prop := utfJoinsUptoRow.holds Try.pinned (OpenSpec.upto utfJoinsSpec)

/-- 'dragomanlaw1.UtfOrder', WHERE WHAT IT READS IS OF BULK AT MOST 1048576: true; the input reads as it did. -/
def utfOrderUptoRow : OpenClaim := { program := "ytagjfnjfhflahaa", sum := "ca0861688cabf8d4b95266b3b4a12ec746866f7f54bf842f7a782cc8ac7aa126", func := "dragoman/dragomanlaw1.UtfOrder", spec := "utfOrder", apart := false, narrowed := true }
def UtfOrderUptoSaid : Prop := utfOrderUptoRow.holds Try.pinned (OpenSpec.upto utfOrderSpec)

/-- 'dragomanlaw2.PlaceKnown', WHERE WHAT IT READS IS OF BULK AT MOST 1048576: true; the input reads as it did. -/
def placeKnownUptoRow : OpenClaim := { program := "ytagjfnjfhflahaa", sum := "ca0861688cabf8d4b95266b3b4a12ec746866f7f54bf842f7a782cc8ac7aa126", func := "dragoman/dragomanlaw2.PlaceKnown", spec := "placeKnown", inPlace := ["internal/bytealg.CountString", "internal/bytealg.IndexByteString", "internal/bytealg.IndexString"], named := ["internal/bytealg.MaxLen"], apart := false, narrowed := true }
def PlaceKnownUptoSaid : Prop := placeKnownUptoRow.holds Try.pinned (OpenSpec.upto placeKnownSpec)

/-- 'dragomanlaw2.PlaceSays', WHERE WHAT IT READS IS OF BULK AT MOST 1048576: true; the input reads as it did. -/
def placeSaysUptoRow : OpenClaim := { program := "ytagjfnjfhflahaa", sum := "ca0861688cabf8d4b95266b3b4a12ec746866f7f54bf842f7a782cc8ac7aa126", func := "dragoman/dragomanlaw2.PlaceSays", spec := "placeSays", inPlace := ["internal/bytealg.CountString", "internal/bytealg.IndexByteString", "internal/bytealg.IndexString"], named := ["internal/bytealg.MaxLen"], apart := false, narrowed := true }
def PlaceSaysUptoSaid : Prop := placeSaysUptoRow.holds Try.pinned (OpenSpec.upto placeSaysSpec)

/-- 'dragomanlaw2.PlaceBack', WHERE WHAT IT READS IS OF BULK AT MOST 1048576: true; the input reads as it did. -/
def placeBackUptoRow : OpenClaim := { program := "ytagjfnjfhflahaa", sum := "ca0861688cabf8d4b95266b3b4a12ec746866f7f54bf842f7a782cc8ac7aa126", func := "dragoman/dragomanlaw2.PlaceBack", spec := "placeBack", inPlace := ["internal/bytealg.CountString", "internal/bytealg.IndexByteString", "internal/bytealg.IndexString"], named := ["internal/bytealg.MaxLen"], apart := false, narrowed := true }
def PlaceBackUptoSaid : Prop := placeBackUptoRow.holds Try.pinned (OpenSpec.upto placeBackSpec)

/-- 'dragomanlaw2.PlaceSteps', WHERE WHAT IT READS IS OF BULK AT MOST 1048576: true; the input reads as it did. -/
def placeStepsUptoRow : OpenClaim := { program := "ytagjfnjfhflahaa", sum := "ca0861688cabf8d4b95266b3b4a12ec746866f7f54bf842f7a782cc8ac7aa126", func := "dragoman/dragomanlaw2.PlaceSteps", spec := "placeSteps", inPlace := ["internal/bytealg.CountString", "internal/bytealg.IndexByteString", "internal/bytealg.IndexString"], named := ["internal/bytealg.MaxLen"], apart := false, narrowed := true }
def PlaceStepsUptoSaid : Prop := placeStepsUptoRow.holds Try.pinned (OpenSpec.upto placeStepsSpec)

end Rows
end Go.Proofs.Ytagjfnjfhflahaa
