/-
  No cell of these rows narrows 'for every input' (looked for: loops, veiled, ifaces, maps, wideKeys, modest, calm, conditions, laid).
  DERIVED. THE GIVEN ROWS OF THIS SEAT. 5 by the template 'for every input the law returns true; each argument reads behind the call as it read before'; 0 by the template 'total and deterministic' (their statements: YtjmmdphkgioooaaTotals.lean).
  GIVEN WITH THE SEED: the statements are not yours to turn. If you find one false, say at which input.
  Laid BY PROGRAM, IN A SANDBOX (cutbox-rows.mjs): the forced cells as the released guide's own fill.sh prints them over the translation 12e7a32a2589ac2c… (all of the seat's roots in one cut). By AI agents, Wed Nov 11 2026. No macro, syntax, notation, axiom, sorry.
-/
import Derived.Test.YtjmmdphkgioooaaChecked
import GoSem.Claim
import GoSem.ClaimJoined
import GoSem.ClaimMapViews
import Derived.JoinedTies
import Derived.KernelRfl
namespace Go.Proofs.Ytjmmdphkgioooaa
/- THE CELL 'sum', in the pinned program and in every row, IS THE sha256 OF THE DUMP (.gsa) THAT YtjmmdphkgioooaaProg.lean LOADS. Nothing in Lean hashes anything: it is a label: what it is worth is what the hold of that sum in a sandbox is worth. -/
noncomputable def Try.pinned : Pinned := { name := "ytjmmdphkgioooaa", sum := "12e7a32a2589ac2c2d9d3d0dbcb9cdb8ad37020ec28b480200bcefb9d95319ef", checked := Try.checked }
namespace Rows
def none {H : Type} : Left H := { results := [], args := [] }

/-- 'dragomanlaw13.CreadKnown': WHATEVER THE INPUT: true; the input reads as it did. -/
def creadKnownSpec : ChangeSpec := { name := "creadKnown", fn := fun _ => fun
  | [] => { results := [.lit (.bool true)], args := [] }
  | _ => none }
def creadKnownRow : OpenClaim := { program := "ytjmmdphkgioooaa", sum := "12e7a32a2589ac2c2d9d3d0dbcb9cdb8ad37020ec28b480200bcefb9d95319ef", func := "dragoman/dragomanlaw13.CreadKnown", spec := "creadKnown", inPlace := ["internal/bytealg.CountString", "internal/bytealg.IndexByteString", "internal/bytealg.IndexString", "internal/abi.NoEscape"], unfollowed := true, recurses := true, named := ["internal/bytealg.MaxLen"], apart := false }
def CreadKnownSaid : Prop := creadKnownRow.holds Try.pinned (OpenSpec.ofChange creadKnownSpec)

/-- ITS FALSE NEIGHBOUR: 'it returns false'. Refute it at one input. -/
def creadKnownWrong : ChangeSpec := { name := "creadKnown", fn := fun _ => fun
  | [] => { results := [.lit (.bool false)], args := [] }
  | _ => none }
def CreadKnownWrongFalsely : Prop := creadKnownRow.holds Try.pinned (OpenSpec.ofChange creadKnownWrong)

/-- 'dragomanlaw13.CreadSays': WHATEVER THE INPUT: true; the input reads as it did. -/
def creadSaysSpec : ChangeSpec := { name := "creadSays", fn := fun _ => fun
  | [d] => { results := [.lit (.bool true)], args := [d] }
  | _ => none }
def creadSaysRow : OpenClaim := { program := "ytjmmdphkgioooaa", sum := "12e7a32a2589ac2c2d9d3d0dbcb9cdb8ad37020ec28b480200bcefb9d95319ef", func := "dragoman/dragomanlaw13.CreadSays", spec := "creadSays", inPlace := ["internal/bytealg.CountString", "internal/bytealg.IndexByteString", "internal/bytealg.IndexString", "internal/abi.NoEscape"], unfollowed := true, recurses := true, named := ["internal/bytealg.MaxLen"], apart := false }
def CreadSaysSaid : Prop := creadSaysRow.holds Try.pinned (OpenSpec.ofChange creadSaysSpec)

/-- ITS FALSE NEIGHBOUR: 'it returns false'. Refute it at one input. -/
def creadSaysWrong : ChangeSpec := { name := "creadSays", fn := fun _ => fun
  | [d] => { results := [.lit (.bool false)], args := [d] }
  | _ => none }
def CreadSaysWrongFalsely : Prop := creadSaysRow.holds Try.pinned (OpenSpec.ofChange creadSaysWrong)

/-- 'dragomanlaw13.CreadBounds': WHATEVER THE INPUT: true; the input reads as it did. -/
def creadBoundsSpec : ChangeSpec := { name := "creadBounds", fn := fun _ => fun
  | [d1, d2] => { results := [.lit (.bool true)], args := [d1, d2] }
  | _ => none }
def creadBoundsRow : OpenClaim := { program := "ytjmmdphkgioooaa", sum := "12e7a32a2589ac2c2d9d3d0dbcb9cdb8ad37020ec28b480200bcefb9d95319ef", func := "dragoman/dragomanlaw13.CreadBounds", spec := "creadBounds", inPlace := ["internal/bytealg.CountString", "internal/bytealg.IndexByteString", "internal/bytealg.IndexString", "internal/abi.NoEscape"], unfollowed := true, recurses := true, named := ["internal/bytealg.MaxLen"], apart := false }
def CreadBoundsSaid : Prop := creadBoundsRow.holds Try.pinned (OpenSpec.ofChange creadBoundsSpec)

/-- ITS FALSE NEIGHBOUR: 'it returns false'. Refute it at one input. -/
def creadBoundsWrong : ChangeSpec := { name := "creadBounds", fn := fun _ => fun
  | [d1, d2] => { results := [.lit (.bool false)], args := [d1, d2] }
  | _ => none }
def CreadBoundsWrongFalsely : Prop := creadBoundsRow.holds Try.pinned (OpenSpec.ofChange creadBoundsWrong)

/-- 'dragomanlaw13.CreadEnds': WHATEVER THE INPUT: true; the input reads as it did. -/
def creadEndsSpec : ChangeSpec := { name := "creadEnds", fn := fun _ => fun
  | [d] => { results := [.lit (.bool true)], args := [d] }
  | _ => none }
def creadEndsRow : OpenClaim := { program := "ytjmmdphkgioooaa", sum := "12e7a32a2589ac2c2d9d3d0dbcb9cdb8ad37020ec28b480200bcefb9d95319ef", func := "dragoman/dragomanlaw13.CreadEnds", spec := "creadEnds", inPlace := ["internal/bytealg.CountString", "internal/bytealg.IndexByteString", "internal/bytealg.IndexString", "internal/abi.NoEscape"], unfollowed := true, recurses := true, named := ["internal/bytealg.MaxLen"], apart := false }
def CreadEndsSaid : Prop := creadEndsRow.holds Try.pinned (OpenSpec.ofChange creadEndsSpec)

/-- ITS FALSE NEIGHBOUR: 'it returns false'. Refute it at one input. -/
def creadEndsWrong : ChangeSpec := { name := "creadEnds", fn := fun _ => fun
  | [d] => { results := [.lit (.bool false)], args := [d] }
  | _ => none }
def CreadEndsWrongFalsely : Prop := creadEndsRow.holds Try.pinned (OpenSpec.ofChange creadEndsWrong)

/-- 'dragomanlaw13.CreadQuotes': WHATEVER THE INPUT: true; the input reads as it did. -/
def creadQuotesSpec : ChangeSpec := { name := "creadQuotes", fn := fun _ => fun
  | [d1, d2, d3] => { results := [.lit (.bool true)], args := [d1, d2, d3] }
  | _ => none }
def creadQuotesRow : OpenClaim := { program := "ytjmmdphkgioooaa", sum := "12e7a32a2589ac2c2d9d3d0dbcb9cdb8ad37020ec28b480200bcefb9d95319ef", func := "dragoman/dragomanlaw13.CreadQuotes", spec := "creadQuotes", inPlace := ["internal/bytealg.CountString", "internal/bytealg.IndexByteString", "internal/bytealg.IndexString", "internal/abi.NoEscape"], unfollowed := true, recurses := true, named := ["internal/bytealg.MaxLen"], apart := false }
def CreadQuotesSaid : Prop := creadQuotesRow.holds Try.pinned (OpenSpec.ofChange creadQuotesSpec)

/-- ITS FALSE NEIGHBOUR: 'it returns false'. Refute it at one input. -/
def creadQuotesWrong : ChangeSpec := { name := "creadQuotes", fn := fun _ => fun
  | [d1, d2, d3] => { results := [.lit (.bool false)], args := [d1, d2, d3] }
  | _ => none }
def CreadQuotesWrongFalsely : Prop := creadQuotesRow.holds Try.pinned (OpenSpec.ofChange creadQuotesWrong)

/- THE SECOND FORM. 'bulk': how many values and letters a reading holds, each counted each time it is reached (what is shared counts as often as it is met; a slice's spare places count too). A statement '..UptoSaid' is the law's where the arguments, and the package variables that the reading takes, are together of bulk at most 1048576: NARROWER than '..Said'. Prove '..Said' where nothing that the law and all that it calls make is longer than what came in: it says more and counts as full. Else prove '..UptoSaid'. A law counts once. -/
mutual
def uptoBulk {H : Type} : DataW H → Nat
  | .lit (.string bytes) => bytes.length + 1
  | .lit _ => 1
  | .nil => 1
  | .ptr d => uptoBulk d + 1
  | .slice elems spare => uptoBulkAll elems + uptoBulkAll spare + 1
  | .agg parts => uptoBulkAll parts + 1
  | .iface _ d => uptoBulk d + 1
  | .map entries => uptoBulkEntries entries + 1
  | .held _ => 1
def uptoBulkAll {H : Type} : List (DataW H) → Nat
  | [] => 0
  | d :: r => uptoBulk d + uptoBulkAll r
def uptoBulkEntries {H : Type} : List (Lit × DataW H) → Nat
  | [] => 0
  | x :: r => uptoBulkEntry x + uptoBulkEntries r
def uptoBulkEntry {H : Type} : Lit × DataW H → Nat
  | (.string bytes, d) => bytes.length + uptoBulk d + 1
  | (_, d) => uptoBulk d + 1
 end
def uptoSmall : (H : Type) → List (DataW H) → Bool := fun _ ds => decide (uptoBulkAll ds ≤ 1048576)
def OpenSpec.upto (s : _root_.Go.ChangeSpec) : _root_.Go.OpenSpec := { _root_.Go.OpenSpec.ofChange s with cond := some uptoSmall }

/-- 'dragomanlaw13.CreadKnown', WHERE WHAT IT READS IS OF BULK AT MOST 1048576: true; the input reads as it did. -/
def creadKnownUptoRow : OpenClaim := { program := "ytjmmdphkgioooaa", sum := "12e7a32a2589ac2c2d9d3d0dbcb9cdb8ad37020ec28b480200bcefb9d95319ef", func := "dragoman/dragomanlaw13.CreadKnown", spec := "creadKnown", inPlace := ["internal/bytealg.CountString", "internal/bytealg.IndexByteString", "internal/bytealg.IndexString", "internal/abi.NoEscape"], unfollowed := true, recurses := true, named := ["internal/bytealg.MaxLen"], apart := false, narrowed := true }
def CreadKnownUptoSaid : Prop := creadKnownUptoRow.holds Try.pinned (OpenSpec.upto creadKnownSpec)

/-- 'dragomanlaw13.CreadSays', WHERE WHAT IT READS IS OF BULK AT MOST 1048576: true; the input reads as it did. -/
def creadSaysUptoRow : OpenClaim := { program := "ytjmmdphkgioooaa", sum := "12e7a32a2589ac2c2d9d3d0dbcb9cdb8ad37020ec28b480200bcefb9d95319ef", func := "dragoman/dragomanlaw13.CreadSays", spec := "creadSays", inPlace := ["internal/bytealg.CountString", "internal/bytealg.IndexByteString", "internal/bytealg.IndexString", "internal/abi.NoEscape"], unfollowed := true, recurses := true, named := ["internal/bytealg.MaxLen"], apart := false, narrowed := true }
def CreadSaysUptoSaid : Prop := creadSaysUptoRow.holds Try.pinned (OpenSpec.upto creadSaysSpec)

/-- 'dragomanlaw13.CreadBounds', WHERE WHAT IT READS IS OF BULK AT MOST 1048576: true; the input reads as it did. -/
def creadBoundsUptoRow : OpenClaim := { program := "ytjmmdphkgioooaa", sum := "12e7a32a2589ac2c2d9d3d0dbcb9cdb8ad37020ec28b480200bcefb9d95319ef", func := "dragoman/dragomanlaw13.CreadBounds", spec := "creadBounds", inPlace := ["internal/bytealg.CountString", "internal/bytealg.IndexByteString", "internal/bytealg.IndexString", "internal/abi.NoEscape"], unfollowed := true, recurses := true, named := ["internal/bytealg.MaxLen"], apart := false, narrowed := true }
def CreadBoundsUptoSaid : Prop := creadBoundsUptoRow.holds Try.pinned (OpenSpec.upto creadBoundsSpec)

/-- 'dragomanlaw13.CreadEnds', WHERE WHAT IT READS IS OF BULK AT MOST 1048576: true; the input reads as it did. -/
def creadEndsUptoRow : OpenClaim := { program := "ytjmmdphkgioooaa", sum := "12e7a32a2589ac2c2d9d3d0dbcb9cdb8ad37020ec28b480200bcefb9d95319ef", func := "dragoman/dragomanlaw13.CreadEnds", spec := "creadEnds", inPlace := ["internal/bytealg.CountString", "internal/bytealg.IndexByteString", "internal/bytealg.IndexString", "internal/abi.NoEscape"], unfollowed := true, recurses := true, named := ["internal/bytealg.MaxLen"], apart := false, narrowed := true }
def CreadEndsUptoSaid : Prop := creadEndsUptoRow.holds Try.pinned (OpenSpec.upto creadEndsSpec)

/-- 'dragomanlaw13.CreadQuotes', WHERE WHAT IT READS IS OF BULK AT MOST 1048576: true; the input reads as it did. -/
def creadQuotesUptoRow : OpenClaim := { program := "ytjmmdphkgioooaa", sum := "12e7a32a2589ac2c2d9d3d0dbcb9cdb8ad37020ec28b480200bcefb9d95319ef", func := "dragoman/dragomanlaw13.CreadQuotes", spec := "creadQuotes", inPlace := ["internal/bytealg.CountString", "internal/bytealg.IndexByteString", "internal/bytealg.IndexString", "internal/abi.NoEscape"], unfollowed := true, recurses := true, named := ["internal/bytealg.MaxLen"], apart := false, narrowed := true }
def CreadQuotesUptoSaid : Prop := creadQuotesUptoRow.holds Try.pinned (OpenSpec.upto creadQuotesSpec)

end Rows
end Go.Proofs.Ytjmmdphkgioooaa
