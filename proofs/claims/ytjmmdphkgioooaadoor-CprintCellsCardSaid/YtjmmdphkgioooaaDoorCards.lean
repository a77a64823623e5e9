/-
  DERIVED. GIVEN WITH THE SEED: THE CARDS: each row of YtjmmdphkgioooaaDoorRows.lean that lists a variable, with what it lists TIED to the program's text (the seventh form; the later family's looks); each row that meets fmt, with fmt's text TOLD by the authors' own Lean function (tested against real Go, not proved from fmt's source: count such statements apart). THE CARD IS WHAT COUNTS. Prove the row's statement (the work); the ties are given (YtjmmdphkgioooaaDoorTie.lean); close each card by the builder's one call (the guide's Derived/Test/ToyasCard.lean, 'card_holds'). Laid BY PROGRAM, IN A SANDBOX (cutbox-door.mjs). By AI agents, Wed Nov 11 2026. No macro, syntax, notation, axiom, sorry.
-/
import Derived.Test.YtjmmdphkgioooaaDoorRows
import GoSem.ClaimSeven
namespace Go.Proofs.YtjmmdphkgioooaaDoor
namespace Rows

/-- THE TIED CARD OF 'dragomanlaw14.CprintKnown'. -/
def cprintKnownCard : Claim7 := { stood := { row := cprintKnownRow, standIns := [], harness := (true, "f888289110ec67ca3150ff11d84e47596c837d05f18341c0123acda93095d1d7"), looks := true }, kinds := [], alts := [], laidByText := true, laidKinds := [.data, .pinned], laidTests := true, laidLooks := .later }
def CprintKnownCardSaid : Prop := Claim7.holds Tryd.pinned (.plain (OpenSpec.ofChange cprintKnownSpec)) cprintKnownCard

/-- THE TIED CARD OF 'dragomanlaw14.CprintSays'. -/
def cprintSaysCard : Claim7 := { stood := { row := cprintSaysRow, standIns := [], harness := (true, "f888289110ec67ca3150ff11d84e47596c837d05f18341c0123acda93095d1d7"), looks := true }, kinds := [], alts := [], laidByText := true, laidKinds := [.data, .pinned], laidTests := true, laidLooks := .later }
def CprintSaysCardSaid : Prop := Claim7.holds Tryd.pinned (.plain (OpenSpec.ofChange cprintSaysSpec)) cprintSaysCard

/-- THE TIED CARD OF 'dragomanlaw14.CprintBack'. -/
def cprintBackCard : Claim7 := { stood := { row := cprintBackRow, standIns := [], harness := (true, "f888289110ec67ca3150ff11d84e47596c837d05f18341c0123acda93095d1d7"), looks := true }, kinds := [], alts := [], laidByText := true, laidKinds := [.data, .pinned], laidTests := true, laidLooks := .later }
def CprintBackCardSaid : Prop := Claim7.holds Tryd.pinned (.plain (OpenSpec.ofChange cprintBackSpec)) cprintBackCard

/-- THE TIED CARD OF 'dragomanlaw14.CprintCells'. -/
def cprintCellsCard : Claim7 := { stood := { row := cprintCellsRow, standIns := [], harness := (true, "f888289110ec67ca3150ff11d84e47596c837d05f18341c0123acda93095d1d7"), looks := true }, kinds := [], alts := [], laidByText := true, laidKinds := [.data, .pinned], laidTests := true, laidLooks := .later }
def CprintCellsCardSaid : Prop := Claim7.holds Tryd.pinned (.plain (OpenSpec.ofChange cprintCellsSpec)) cprintCellsCard

/-- THE SECOND FORM's CARD OF 'dragomanlaw14.CprintKnown'. -/
def cprintKnownUptoCard : Claim7 := { stood := { row := cprintKnownUptoRow, standIns := [], harness := (true, "f888289110ec67ca3150ff11d84e47596c837d05f18341c0123acda93095d1d7"), looks := true }, kinds := [], alts := [], laidByText := true, laidKinds := [.data, .pinned], laidTests := true, laidLooks := .later }
def CprintKnownUptoCardSaid : Prop := Claim7.holds Tryd.pinned (.plain (OpenSpec.upto cprintKnownSpec)) cprintKnownUptoCard

/-- THE SECOND FORM's CARD OF 'dragomanlaw14.CprintSays'. -/
def cprintSaysUptoCard : Claim7 := { stood := { row := cprintSaysUptoRow, standIns := [], harness := (true, "f888289110ec67ca3150ff11d84e47596c837d05f18341c0123acda93095d1d7"), looks := true }, kinds := [], alts := [], laidByText := true, laidKinds := [.data, .pinned], laidTests := true, laidLooks := .later }
def CprintSaysUptoCardSaid : Prop := Claim7.holds Tryd.pinned (.plain (OpenSpec.upto cprintSaysSpec)) cprintSaysUptoCard

/-- THE SECOND FORM's CARD OF 'dragomanlaw14.CprintBack'. -/
def cprintBackUptoCard : Claim7 := { stood := { row := cprintBackUptoRow, standIns := [], harness := (true, "f888289110ec67ca3150ff11d84e47596c837d05f18341c0123acda93095d1d7"), looks := true }, kinds := [], alts := [], laidByText := true, laidKinds := [.data, .pinned], laidTests := true, laidLooks := .later }
def CprintBackUptoCardSaid : Prop := Claim7.holds Tryd.pinned (.plain (OpenSpec.upto cprintBackSpec)) cprintBackUptoCard

/-- THE SECOND FORM's CARD OF 'dragomanlaw14.CprintCells'. -/
def cprintCellsUptoCard : Claim7 := { stood := { row := cprintCellsUptoRow, standIns := [], harness := (true, "f888289110ec67ca3150ff11d84e47596c837d05f18341c0123acda93095d1d7"), looks := true }, kinds := [], alts := [], laidByText := true, laidKinds := [.data, .pinned], laidTests := true, laidLooks := .later }
def CprintCellsUptoCardSaid : Prop := Claim7.holds Tryd.pinned (.plain (OpenSpec.upto cprintCellsSpec)) cprintCellsUptoCard
end Rows
end Go.Proofs.YtjmmdphkgioooaaDoor
