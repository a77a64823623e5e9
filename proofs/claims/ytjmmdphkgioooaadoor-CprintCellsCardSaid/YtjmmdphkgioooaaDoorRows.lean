/-
  NARROWER THAN 'FOR EVERY INPUT', by the rows' own cells (each row's printed sentence says how): CprintKnown: laid · CprintSays: laid · CprintBack: laid · CprintCells: laid.
  DERIVED. THE GIVEN ROWS OF THIS SEAT. 4 by the template 'for every input the law returns true; each argument reads behind the call as it read before'; 0 by the template 'total and deterministic' (their statements: YtjmmdphkgioooaaDoorTotals.lean).
  GIVEN WITH THE SEED: the statements are not yours to turn. If you find one false, say at which input.
  Laid BY PROGRAM, IN A SANDBOX (cutbox-rows.mjs): the forced cells as the released guide's own fill.sh prints them over the translation f002682627f3ed5b… (all of the seat's roots in one cut). By AI agents, Wed Nov 11 2026. No macro, syntax, notation, axiom, sorry.
-/
import Derived.Test.YtjmmdphkgioooaaDoorChecked
import GoSem.PinnedTables
import GoSem.Claim
import GoSem.ClaimJoined
import GoSem.ClaimMapViews
import Derived.JoinedTies
import Derived.KernelRfl
namespace Go.Proofs.YtjmmdphkgioooaaDoor
/- THE CELL 'sum', in the pinned program and in every row, IS THE sha256 OF THE DUMP (.gsa) THAT YtjmmdphkgioooaaDoorProg.lean LOADS. Nothing in Lean hashes anything: it is a label: what it is worth is what the hold of that sum in a sandbox is worth. -/
noncomputable def Tryd.pinned : Pinned := { name := "ytjmmdphkgioooaadoor", sum := "f002682627f3ed5b4d0c2ed8d2b39a2efb8d762c5bc17d917db30fd71d3715f1", checked := Tryd.checked }
namespace Rows
def none {H : Type} : Left H := { results := [], args := [] }

/- WHAT THE LISTED PACKAGE-LEVEL VARIABLES READ AS WHEN THE CALL BEGINS. Each datum BY PROGRAM (the guide's laid-datum.mjs) off the statement by which the dump's own 'gosem.cut.vars' lays the variable. In a bare row this is a premise. The card (YtjmmdphkgioooaaDoorCards.lean) ties it to the program's text. -/
def laid_unicode_utf8_acceptRanges {H : Type} : DataW H := .agg [.agg [.lit (.int .u8 128), .lit (.int .u8 191)], .agg [.lit (.int .u8 160), .lit (.int .u8 191)], .agg [.lit (.int .u8 128), .lit (.int .u8 159)], .agg [.lit (.int .u8 144), .lit (.int .u8 191)], .agg [.lit (.int .u8 128), .lit (.int .u8 143)], .agg [.lit (.int .u8 0), .lit (.int .u8 0)], .agg [.lit (.int .u8 0), .lit (.int .u8 0)], .agg [.lit (.int .u8 0), .lit (.int .u8 0)], .agg [.lit (.int .u8 0), .lit (.int .u8 0)], .agg [.lit (.int .u8 0), .lit (.int .u8 0)], .agg [.lit (.int .u8 0), .lit (.int .u8 0)], .agg [.lit (.int .u8 0), .lit (.int .u8 0)], .agg [.lit (.int .u8 0), .lit (.int .u8 0)], .agg [.lit (.int .u8 0), .lit (.int .u8 0)], .agg [.lit (.int .u8 0), .lit (.int .u8 0)], .agg [.lit (.int .u8 0), .lit (.int .u8 0)]]
/-- One of Go's own tables, pinned by name: the form's constant. -/
def laid_unicode_utf8_first : DataW Unit := Go.Pinned.utf8First

/-- 'dragomanlaw14.CprintKnown': WHATEVER THE INPUT: true; the input reads as it did. -/
def cprintKnownSpec : ChangeSpec := { name := "cprintKnown", fn := fun _ => fun
  | [] => { results := [.lit (.bool true)], args := [] }
  | _ => none }
def cprintKnownRow : OpenClaim := { program := "ytjmmdphkgioooaadoor", sum := "f002682627f3ed5b4d0c2ed8d2b39a2efb8d762c5bc17d917db30fd71d3715f1", func := "dragoman/dragomanlaw14.CprintKnown", spec := "cprintKnown", inPlace := ["internal/bytealg.IndexByteString", "internal/bytealg.IndexString", "internal/bytealg.CountString", "internal/abi.NoEscape", "internal/bytealg.MakeNoZero"], unfollowed := true, recurses := true, named := ["internal/bytealg.MaxLen", "unicode/utf8.first", "unicode/utf8.acceptRanges"], apart := false, laid := [("unicode/utf8.acceptRanges", laid_unicode_utf8_acceptRanges), ("unicode/utf8.first", laid_unicode_utf8_first)] }
def CprintKnownSaid : Prop := cprintKnownRow.holds Tryd.pinned (OpenSpec.ofChange cprintKnownSpec)

/-- ITS FALSE NEIGHBOUR: 'it returns false'. Refute it at one input. -/
def cprintKnownWrong : ChangeSpec := { name := "cprintKnown", fn := fun _ => fun
  | [] => { results := [.lit (.bool false)], args := [] }
  | _ => none }
def CprintKnownWrongFalsely : Prop := cprintKnownRow.holds Tryd.pinned (OpenSpec.ofChange cprintKnownWrong)

/-- 'dragomanlaw14.CprintSays': WHATEVER THE INPUT: true; the input reads as it did. -/
def cprintSaysSpec : ChangeSpec := { name := "cprintSays", fn := fun _ => fun
  | [d] => { results := [.lit (.bool true)], args := [d] }
  | _ => none }
def cprintSaysRow : OpenClaim := { program := "ytjmmdphkgioooaadoor", sum := "f002682627f3ed5b4d0c2ed8d2b39a2efb8d762c5bc17d917db30fd71d3715f1", func := "dragoman/dragomanlaw14.CprintSays", spec := "cprintSays", inPlace := ["internal/bytealg.IndexByteString", "internal/bytealg.IndexString", "internal/bytealg.CountString", "internal/abi.NoEscape", "internal/bytealg.MakeNoZero"], unfollowed := true, recurses := true, named := ["internal/bytealg.MaxLen", "unicode/utf8.first", "unicode/utf8.acceptRanges"], apart := false, laid := [("unicode/utf8.acceptRanges", laid_unicode_utf8_acceptRanges), ("unicode/utf8.first", laid_unicode_utf8_first)] }
def CprintSaysSaid : Prop := cprintSaysRow.holds Tryd.pinned (OpenSpec.ofChange cprintSaysSpec)

/-- ITS FALSE NEIGHBOUR: 'it returns false'. Refute it at one input. -/
def cprintSaysWrong : ChangeSpec := { name := "cprintSays", fn := fun _ => fun
  | [d] => { results := [.lit (.bool false)], args := [d] }
  | _ => none }
def CprintSaysWrongFalsely : Prop := cprintSaysRow.holds Tryd.pinned (OpenSpec.ofChange cprintSaysWrong)

/-- 'dragomanlaw14.CprintBack': WHATEVER THE INPUT: true; the input reads as it did. -/
def cprintBackSpec : ChangeSpec := { name := "cprintBack", fn := fun _ => fun
  | [d] => { results := [.lit (.bool true)], args := [d] }
  | _ => none }
def cprintBackRow : OpenClaim := { program := "ytjmmdphkgioooaadoor", sum := "f002682627f3ed5b4d0c2ed8d2b39a2efb8d762c5bc17d917db30fd71d3715f1", func := "dragoman/dragomanlaw14.CprintBack", spec := "cprintBack", inPlace := ["internal/bytealg.IndexByteString", "internal/bytealg.IndexString", "internal/bytealg.CountString", "internal/abi.NoEscape", "internal/bytealg.MakeNoZero"], unfollowed := true, recurses := true, named := ["internal/bytealg.MaxLen", "unicode/utf8.first", "unicode/utf8.acceptRanges"], apart := false, laid := [("unicode/utf8.acceptRanges", laid_unicode_utf8_acceptRanges), ("unicode/utf8.first", laid_unicode_utf8_first)] }
def CprintBackSaid : Prop := cprintBackRow.holds Tryd.pinned (OpenSpec.ofChange cprintBackSpec)

/-- ITS FALSE NEIGHBOUR: 'it returns false'. Refute it at one input. -/
def cprintBackWrong : ChangeSpec := { name := "cprintBack", fn := fun _ => fun
  | [d] => { results := [.lit (.bool false)], args := [d] }
  | _ => none }
def CprintBackWrongFalsely : Prop := cprintBackRow.holds Tryd.pinned (OpenSpec.ofChange cprintBackWrong)

/-- 'dragomanlaw14.CprintCells': WHATEVER THE INPUT: true; the input reads as it did. -/
def cprintCellsSpec : ChangeSpec := { name := "cprintCells", fn := fun _ => fun
  | [d1, d2] => { results := [.lit (.bool true)], args := [d1, d2] }
  | _ => none }
def cprintCellsRow : OpenClaim := { program := "ytjmmdphkgioooaadoor", sum := "f002682627f3ed5b4d0c2ed8d2b39a2efb8d762c5bc17d917db30fd71d3715f1", func := "dragoman/dragomanlaw14.CprintCells", spec := "cprintCells", inPlace := ["internal/bytealg.IndexByteString", "internal/bytealg.IndexString", "internal/bytealg.CountString", "internal/abi.NoEscape", "internal/bytealg.MakeNoZero"], unfollowed := true, recurses := true, named := ["internal/bytealg.MaxLen", "unicode/utf8.first", "unicode/utf8.acceptRanges"], apart := false, laid := [("unicode/utf8.acceptRanges", laid_unicode_utf8_acceptRanges), ("unicode/utf8.first", laid_unicode_utf8_first)] }
def CprintCellsSaid : Prop := cprintCellsRow.holds Tryd.pinned (OpenSpec.ofChange cprintCellsSpec)

/-- ITS FALSE NEIGHBOUR: 'it returns false'. Refute it at one input. -/
def cprintCellsWrong : ChangeSpec := { name := "cprintCells", fn := fun _ => fun
  | [d1, d2] => { results := [.lit (.bool false)], args := [d1, d2] }
  | _ => none }
def CprintCellsWrongFalsely : Prop := cprintCellsRow.holds Tryd.pinned (OpenSpec.ofChange cprintCellsWrong)

/- THE SECOND FORM. 'bulk': how many values and letters a reading holds, each counted each time it is reached (what is shared counts as often as it is met; a slice's spare places count too). A statement '..UptoSaid' is the law's where the arguments, and the package variables that the reading takes, are together of bulk at most 1048576: NARROWER than '..Said'. Prove '..Said' where nothing that the law and all that it calls make is longer than what came in: it says more and counts as full. Else prove '..UptoSaid'. A law counts once. -/
mutual
def uptoBulk {H : Type} : DataW H → Nat
  | .lit (.string bytes) => bytes.length + 1
  | .lit _ => 1
  | .nil => 1
  | .ptr d => uptoBulk d + 1
  | .slice elems spare => uptoBulkAll elems + uptoBulkAll spare + 1
  | .agg parts => uptoBulkAll parts + 1
  | .iface _ d => uptoBulk d + 1
  | .map entries => uptoBulkEntries entries + 1
  | .held _ => 1
def uptoBulkAll {H : Type} : List (DataW H) → Nat
  | [] => 0
  | d :: r => uptoBulk d + uptoBulkAll r
def uptoBulkEntries {H : Type} : List (Lit × DataW H) → Nat
  | [] => 0
  | x :: r => uptoBulkEntry x + uptoBulkEntries r
def uptoBulkEntry {H : Type} : Lit × DataW H → Nat
  | (.string bytes, d) => bytes.length + uptoBulk d + 1
  | (_, d) => uptoBulk d + 1
 end
def uptoSmall : (H : Type) → List (DataW H) → Bool := fun _ ds => decide (uptoBulkAll ds ≤ 1048576)
def OpenSpec.upto (s : _root_.Go.ChangeSpec) : _root_.Go.OpenSpec := { _root_.Go.OpenSpec.ofChange s with cond := some uptoSmall }

/-- 'dragomanlaw14.CprintKnown', WHERE WHAT IT READS IS OF BULK AT MOST 1048576: true; the input reads as it did. -/
def cprintKnownUptoRow : OpenClaim := { program := "ytjmmdphkgioooaadoor", sum := "f002682627f3ed5b4d0c2ed8d2b39a2efb8d762c5bc17d917db30fd71d3715f1", func := "dragoman/dragomanlaw14.CprintKnown", spec := "cprintKnown", inPlace := ["internal/bytealg.IndexByteString", "internal/bytealg.IndexString", "internal/bytealg.CountString", "internal/abi.NoEscape", "internal/bytealg.MakeNoZero"], unfollowed := true, recurses := true, named := ["internal/bytealg.MaxLen", "unicode/utf8.first", "unicode/utf8.acceptRanges"], apart := false, laid := [("unicode/utf8.acceptRanges", laid_unicode_utf8_acceptRanges), ("unicode/utf8.first", laid_unicode_utf8_first)], narrowed := true }
def CprintKnownUptoSaid : Prop := cprintKnownUptoRow.holds Tryd.pinned (OpenSpec.upto cprintKnownSpec)

/-- 'dragomanlaw14.CprintSays', WHERE WHAT IT READS IS OF BULK AT MOST 1048576: true; the input reads as it did. -/
def cprintSaysUptoRow : OpenClaim := { program := "ytjmmdphkgioooaadoor", sum := "f002682627f3ed5b4d0c2ed8d2b39a2efb8d762c5bc17d917db30fd71d3715f1", func := "dragoman/dragomanlaw14.CprintSays", spec := "cprintSays", inPlace := ["internal/bytealg.IndexByteString", "internal/bytealg.IndexString", "internal/bytealg.CountString", "internal/abi.NoEscape", "internal/bytealg.MakeNoZero"], unfollowed := true, recurses := true, named := ["internal/bytealg.MaxLen", "unicode/utf8.first", "unicode/utf8.acceptRanges"], apart := false, laid := [("unicode/utf8.acceptRanges", laid_unicode_utf8_acceptRanges), ("unicode/utf8.first", laid_unicode_utf8_first)], narrowed := true }
def CprintSaysUptoSaid : Prop := cprintSaysUptoRow.holds Tryd.pinned (OpenSpec.upto cprintSaysSpec)

/-- 'dragomanlaw14.CprintBack', WHERE WHAT IT READS IS OF BULK AT MOST 1048576: true; the input reads as it did. -/
def cprintBackUptoRow : OpenClaim := { program := "ytjmmdphkgioooaadoor", sum := "f002682627f3ed5b4d0c2ed8d2b39a2efb8d762c5bc17d917db30fd71d3715f1", func := "dragoman/dragomanlaw14.CprintBack", spec := "cprintBack", inPlace := ["internal/bytealg.IndexByteString", "internal/bytealg.IndexString", "internal/bytealg.CountString", "internal/abi.NoEscape", "internal/bytealg.MakeNoZero"], unfollowed := true, recurses := true, named := ["internal/bytealg.MaxLen", "unicode/utf8.first", "unicode/utf8.acceptRanges"], apart := false, laid := [("unicode/utf8.acceptRanges", laid_unicode_utf8_acceptRanges), ("unicode/utf8.first", laid_unicode_utf8_first)], narrowed := true }
def CprintBackUptoSaid : Prop := cprintBackUptoRow.holds Tryd.pinned (OpenSpec.upto cprintBackSpec)

/-- 'dragomanlaw14.CprintCells', WHERE WHAT IT READS IS OF BULK AT MOST 1048576: true; the input reads as it did. -/
def cprintCellsUptoRow : OpenClaim := { program := "ytjmmdphkgioooaadoor", sum := "f002682627f3ed5b4d0c2ed8d2b39a2efb8d762c5bc17d917db30fd71d3715f1", func := "dragoman/dragomanlaw14.CprintCells", spec := "cprintCells", inPlace := ["internal/bytealg.IndexByteString", "internal/bytealg.IndexString", "internal/bytealg.CountString", "internal/abi.NoEscape", "internal/bytealg.MakeNoZero"], unfollowed := true, recurses := true, named := ["internal/bytealg.MaxLen", "unicode/utf8.first", "unicode/utf8.acceptRanges"], apart := false, laid := [("unicode/utf8.acceptRanges", laid_unicode_utf8_acceptRanges), ("unicode/utf8.first", laid_unicode_utf8_first)], narrowed := true }
def CprintCellsUptoSaid : Prop := cprintCellsUptoRow.holds Tryd.pinned (OpenSpec.upto cprintCellsSpec)

end Rows
end Go.Proofs.YtjmmdphkgioooaaDoor
