/-
  DERIVED. GIVEN WITH THE SEED: THE CARDS: each row of YtoanbmggffkmgaaDoorRows.lean that lists a variable, with what it lists TIED to the program's text (the seventh form; the later family's looks); each row that meets fmt, with fmt's text TOLD by the authors' own Lean function (tested against real Go, not proved from fmt's source: count such statements apart). THE CARD IS WHAT COUNTS. Prove the row's statement (the work); the ties are given (YtoanbmggffkmgaaDoorTie.lean); close each card by the builder's one call (the guide's Derived/Test/ToyasCard.lean, 'card_holds'). Laid BY PROGRAM, IN A SANDBOX (cutbox-door.mjs). By AI agents, Wed Nov 11 2026. No macro, syntax, notation, axiom, sorry.
-/
import Derived.Test.YtoanbmggffkmgaaDoorRows
import GoSem.ClaimSeven
namespace Go.Proofs.YtoanbmggffkmgaaDoor
namespace Rows

/-- THE TIED CARD OF 'dragomanlaw7.JlexPlaces'. -/
def jlexPlacesCard : Claim7 := { stood := { row := jlexPlacesRow, standIns := [], harness := (true, "10eccc99213ae10a59c6b4a02b6113e450af7f94e9a80fbb75fdea392b558104"), looks := false }, kinds := [], alts := [], laidByText := true, laidKinds := [.data, .pinned], laidTests := true, laidLooks := .later }
def JlexPlacesCardSaid : Prop := Claim7.holds Tryd.pinned (.plain (OpenSpec.ofChange jlexPlacesSpec)) jlexPlacesCard

/-- THE TIED CARD OF 'dragomanlaw7.JlexNumbers'. -/
def jlexNumbersCard : Claim7 := { stood := { row := jlexNumbersRow, standIns := [], harness := (true, "10eccc99213ae10a59c6b4a02b6113e450af7f94e9a80fbb75fdea392b558104"), looks := false }, kinds := [], alts := [], laidByText := true, laidKinds := [.data, .pinned], laidTests := true, laidLooks := .later }
def JlexNumbersCardSaid : Prop := Claim7.holds Tryd.pinned (.plain (OpenSpec.ofChange jlexNumbersSpec)) jlexNumbersCard

/-- THE TIED CARD OF 'dragomanlaw6.EscKnown'. -/
def escKnownCard : Claim7 := { stood := { row := escKnownRow, standIns := [], harness := (true, "10eccc99213ae10a59c6b4a02b6113e450af7f94e9a80fbb75fdea392b558104"), looks := false }, kinds := [], alts := [], laidByText := true, laidKinds := [.data, .pinned], laidTests := true, laidLooks := .later }
def EscKnownCardSaid : Prop := Claim7.holds Tryd.pinned (.plain (OpenSpec.ofChange escKnownSpec)) escKnownCard

/-- THE TIED CARD OF 'dragomanlaw6.EscWrites'. -/
def escWritesCard : Claim7 := { stood := { row := escWritesRow, standIns := [], harness := (true, "10eccc99213ae10a59c6b4a02b6113e450af7f94e9a80fbb75fdea392b558104"), looks := false }, kinds := [], alts := [], laidByText := true, laidKinds := [.data, .pinned], laidTests := true, laidLooks := .later }
def EscWritesCardSaid : Prop := Claim7.holds Tryd.pinned (.plain (OpenSpec.ofChange escWritesSpec)) escWritesCard

/-- THE TIED CARD OF 'dragomanlaw6.EscEvery'. -/
def escEveryCard : Claim7 := { stood := { row := escEveryRow, standIns := [], harness := (true, "10eccc99213ae10a59c6b4a02b6113e450af7f94e9a80fbb75fdea392b558104"), looks := false }, kinds := [], alts := [], laidByText := true, laidKinds := [.data, .pinned], laidTests := true, laidLooks := .later }
def EscEveryCardSaid : Prop := Claim7.holds Tryd.pinned (.plain (OpenSpec.ofChange escEverySpec)) escEveryCard

/-- THE TIED CARD OF 'dragomanlaw6.EscCuts'. -/
def escCutsCard : Claim7 := { stood := { row := escCutsRow, standIns := [], harness := (true, "10eccc99213ae10a59c6b4a02b6113e450af7f94e9a80fbb75fdea392b558104"), looks := false }, kinds := [], alts := [], laidByText := true, laidKinds := [.data, .pinned], laidTests := true, laidLooks := .later }
def EscCutsCardSaid : Prop := Claim7.holds Tryd.pinned (.plain (OpenSpec.ofChange escCutsSpec)) escCutsCard

/-- THE TIED CARD OF 'dragomanlaw7.JlexKnown'. -/
def jlexKnownCard : Claim7 := { stood := { row := jlexKnownRow, standIns := [], harness := (true, "10eccc99213ae10a59c6b4a02b6113e450af7f94e9a80fbb75fdea392b558104"), looks := false }, kinds := [], alts := [], laidByText := true, laidKinds := [.data, .pinned], laidTests := true, laidLooks := .later }
def JlexKnownCardSaid : Prop := Claim7.holds Tryd.pinned (.plain (OpenSpec.ofChange jlexKnownSpec)) jlexKnownCard

/-- THE TIED CARD OF 'dragomanlaw7.JlexCuts'. -/
def jlexCutsCard : Claim7 := { stood := { row := jlexCutsRow, standIns := [], harness := (true, "10eccc99213ae10a59c6b4a02b6113e450af7f94e9a80fbb75fdea392b558104"), looks := false }, kinds := [], alts := [], laidByText := true, laidKinds := [.data, .pinned], laidTests := true, laidLooks := .later }
def JlexCutsCardSaid : Prop := Claim7.holds Tryd.pinned (.plain (OpenSpec.ofChange jlexCutsSpec)) jlexCutsCard

/-- THE TIED CARD OF 'dragomanlaw7.JlexBlanks'. -/
def jlexBlanksCard : Claim7 := { stood := { row := jlexBlanksRow, standIns := [], harness := (true, "10eccc99213ae10a59c6b4a02b6113e450af7f94e9a80fbb75fdea392b558104"), looks := false }, kinds := [], alts := [], laidByText := true, laidKinds := [.data, .pinned], laidTests := true, laidLooks := .later }
def JlexBlanksCardSaid : Prop := Claim7.holds Tryd.pinned (.plain (OpenSpec.ofChange jlexBlanksSpec)) jlexBlanksCard

/-- THE SECOND FORM's CARD OF 'dragomanlaw7.JlexPlaces'. -/
def jlexPlacesUptoCard : Claim7 := { stood := { row := jlexPlacesUptoRow, standIns := [], harness := (true, "10eccc99213ae10a59c6b4a02b6113e450af7f94e9a80fbb75fdea392b558104"), looks := false }, kinds := [], alts := [], laidByText := true, laidKinds := [.data, .pinned], laidTests := true, laidLooks := .later }
def JlexPlacesUptoCardSaid : Prop := Claim7.holds Tryd.pinned (.plain (OpenSpec.upto jlexPlacesSpec)) jlexPlacesUptoCard

/-- THE SECOND FORM's CARD OF 'dragomanlaw7.JlexNumbers'. -/
def jlexNumbersUptoCard : Claim7 := { stood := { row := jlexNumbersUptoRow, standIns := [], harness := (true, "10eccc99213ae10a59c6b4a02b6113e450af7f94e9a80fbb75fdea392b558104"), looks := false }, kinds := [], alts := [], laidByText := true, laidKinds := [.data, .pinned], laidTests := true, laidLooks := .later }
def JlexNumbersUptoCardSaid : Prop := Claim7.holds Tryd.pinned (.plain (OpenSpec.upto jlexNumbersSpec)) jlexNumbersUptoCard

/-- THE SECOND FORM's CARD OF 'dragomanlaw6.EscKnown'. -/
def escKnownUptoCard : Claim7 := { stood := { row := escKnownUptoRow, standIns := [], harness := (true, "10eccc99213ae10a59c6b4a02b6113e450af7f94e9a80fbb75fdea392b558104"), looks := false }, kinds := [], alts := [], laidByText := true, laidKinds := [.data, .pinned], laidTests := true, laidLooks := .later }
def EscKnownUptoCardSaid : Prop := Claim7.holds Tryd.pinned (.plain (OpenSpec.upto escKnownSpec)) escKnownUptoCard

/-- THE SECOND FORM's CARD OF 'dragomanlaw6.EscWrites'. -/
def escWritesUptoCard : Claim7 := { stood := { row := escWritesUptoRow, standIns := [], harness := (true, "10eccc99213ae10a59c6b4a02b6113e450af7f94e9a80fbb75fdea392b558104"), looks := false }, kinds := [], alts := [], laidByText := true, laidKinds := [.data, .pinned], laidTests := true, laidLooks := .later }
def EscWritesUptoCardSaid : Prop := Claim7.holds Tryd.pinned (.plain (OpenSpec.upto escWritesSpec)) escWritesUptoCard

/-- THE SECOND FORM's CARD OF 'dragomanlaw6.EscEvery'. -/
def escEveryUptoCard : Claim7 := { stood := { row := escEveryUptoRow, standIns := [], harness := (true, "10eccc99213ae10a59c6b4a02b6113e450af7f94e9a80fbb75fdea392b558104"), looks := false }, kinds := [], alts := [], laidByText := true, laidKinds := [.data, .pinned], laidTests := true, laidLooks := .later }
def EscEveryUptoCardSaid : Prop := Claim7.holds Tryd.pinned (.plain (OpenSpec.upto escEverySpec)) escEveryUptoCard

/-- THE SECOND FORM's CARD OF 'dragomanlaw6.EscCuts'. -/
def escCutsUptoCard : Claim7 := { stood := { row := escCutsUptoRow, standIns := [], harness := (true, "10eccc99213ae10a59c6b4a02b6113e450af7f94e9a80fbb75fdea392b558104"), looks := false }, kinds := [], alts := [], laidByText := true, laidKinds := [.data, .pinned], laidTests := true, laidLooks := .later }
def EscCutsUptoCardSaid : Prop := Claim7.holds Tryd.pinned (.plain (OpenSpec.upto escCutsSpec)) escCutsUptoCard

/-- THE SECOND FORM's CARD OF 'dragomanlaw7.JlexKnown'. -/
def jlexKnownUptoCard : Claim7 := { stood := { row := jlexKnownUptoRow, standIns := [], harness := (true, "10eccc99213ae10a59c6b4a02b6113e450af7f94e9a80fbb75fdea392b558104"), looks := false }, kinds := [], alts := [], laidByText := true, laidKinds := [.data, .pinned], laidTests := true, laidLooks := .later }
def JlexKnownUptoCardSaid : Prop := Claim7.holds Tryd.pinned (.plain (OpenSpec.upto jlexKnownSpec)) jlexKnownUptoCard

/-- THE SECOND FORM's CARD OF 'dragomanlaw7.JlexCuts'. -/
def jlexCutsUptoCard : Claim7 := { stood := { row := jlexCutsUptoRow, standIns := [], harness := (true, "10eccc99213ae10a59c6b4a02b6113e450af7f94e9a80fbb75fdea392b558104"), looks := false }, kinds := [], alts := [], laidByText := true, laidKinds := [.data, .pinned], laidTests := true, laidLooks := .later }
def JlexCutsUptoCardSaid : Prop := Claim7.holds Tryd.pinned (.plain (OpenSpec.upto jlexCutsSpec)) jlexCutsUptoCard

/-- THE SECOND FORM's CARD OF 'dragomanlaw7.JlexBlanks'. -/
def jlexBlanksUptoCard : Claim7 := { stood := { row := jlexBlanksUptoRow, standIns := [], harness := (true, "10eccc99213ae10a59c6b4a02b6113e450af7f94e9a80fbb75fdea392b558104"), looks := false }, kinds := [], alts := [], laidByText := true, laidKinds := [.data, .pinned], laidTests := true, laidLooks := .later }
def JlexBlanksUptoCardSaid : Prop := Claim7.holds Tryd.pinned (.plain (OpenSpec.upto jlexBlanksSpec)) jlexBlanksUptoCard
end Rows
end Go.Proofs.YtoanbmggffkmgaaDoor
