/-
  DERIVED. GIVEN WITH THE SEED: THE CARDS: each row of YtlfdfkbmollaaaaGreatDoorRows.lean that lists a variable, with what it lists TIED to the program's text (the seventh form; the later family's looks); each row that meets fmt, with fmt's text TOLD by the authors' own Lean function (tested against real Go, not proved from fmt's source: count such statements apart). THE CARD IS WHAT COUNTS. Prove the row's statement (the work); the ties are given (YtlfdfkbmollaaaaGreatDoorTie.lean); close each card by the builder's one call (the guide's Derived/Test/ToyasCard.lean, 'card_holds'). Laid BY PROGRAM, IN A SANDBOX (cutbox-door.mjs). By AI agents, Wed Nov 11 2026. No macro, syntax, notation, axiom, sorry.
-/
import Derived.Test.YtlfdfkbmollaaaaGreatDoorRows
import GoSem.ClaimSeven
namespace Go.Proofs.YtlfdfkbmollaaaaGreatDoor
namespace Rows

/-- THE TIED CARD OF 'antecedelaw36.SlicetextParses'. -/
def slicetextParsesCard : Claim7 := { stood := { row := slicetextParsesRow, standIns := [], harness := (true, "44eddffa12a57bfae7a51751ce7af0109a58a86528fb5ba4e4d54cf7b865787c"), looks := true }, kinds := [], alts := [], laidByText := true, laidKinds := [.data, .data, .data, .data, .sentinel, .sentinel, .pinned], laidTests := true, laidLooks := .later }
def SlicetextParsesCardSaid : Prop := Claim7.holds Tryz.pinned (.plain (OpenSpec.ofChange slicetextParsesSpec)) slicetextParsesCard

/-- THE TIED CARD OF 'antecedelaw36.SlicetextBack'. -/
def slicetextBackCard : Claim7 := { stood := { row := slicetextBackRow, standIns := [], harness := (true, "44eddffa12a57bfae7a51751ce7af0109a58a86528fb5ba4e4d54cf7b865787c"), looks := true }, kinds := [], alts := [], laidByText := true, laidKinds := [.data, .data, .data, .data, .sentinel, .sentinel, .pinned], laidTests := true, laidLooks := .later }
def SlicetextBackCardSaid : Prop := Claim7.holds Tryz.pinned (.plain (OpenSpec.ofChange slicetextBackSpec)) slicetextBackCard

/-- THE TIED CARD OF 'antecedelaw36.SlicetextTexts'. -/
def slicetextTextsCard : Claim7 := { stood := { row := slicetextTextsRow, standIns := [], harness := (true, "44eddffa12a57bfae7a51751ce7af0109a58a86528fb5ba4e4d54cf7b865787c"), looks := true }, kinds := [], alts := [], laidByText := true, laidKinds := [.data, .data, .data, .data, .sentinel, .sentinel, .pinned], laidTests := true, laidLooks := .later }
def SlicetextTextsCardSaid : Prop := Claim7.holds Tryz.pinned (.plain (OpenSpec.ofChange slicetextTextsSpec)) slicetextTextsCard

/-- THE TIED CARD OF 'antecedelaw36.SlicetextRatios'. -/
def slicetextRatiosCard : Claim7 := { stood := { row := slicetextRatiosRow, standIns := [], harness := (true, "44eddffa12a57bfae7a51751ce7af0109a58a86528fb5ba4e4d54cf7b865787c"), looks := true }, kinds := [], alts := [], laidByText := true, laidKinds := [.data, .data, .data, .data, .sentinel, .sentinel, .pinned], laidTests := true, laidLooks := .later }
def SlicetextRatiosCardSaid : Prop := Claim7.holds Tryz.pinned (.plain (OpenSpec.ofChange slicetextRatiosSpec)) slicetextRatiosCard

/-- THE TIED CARD OF 'antecedelaw36.SlicetextIdeals'. -/
def slicetextIdealsCard : Claim7 := { stood := { row := slicetextIdealsRow, standIns := [], harness := (true, "44eddffa12a57bfae7a51751ce7af0109a58a86528fb5ba4e4d54cf7b865787c"), looks := true }, kinds := [], alts := [], laidByText := true, laidKinds := [.data, .data, .data, .data, .sentinel, .sentinel, .pinned], laidTests := true, laidLooks := .later }
def SlicetextIdealsCardSaid : Prop := Claim7.holds Tryz.pinned (.plain (OpenSpec.ofChange slicetextIdealsSpec)) slicetextIdealsCard

/-- THE SECOND FORM's CARD OF 'antecedelaw36.SlicetextParses'. -/
def slicetextParsesUptoCard : Claim7 := { stood := { row := slicetextParsesUptoRow, standIns := [], harness := (true, "44eddffa12a57bfae7a51751ce7af0109a58a86528fb5ba4e4d54cf7b865787c"), looks := true }, kinds := [], alts := [], laidByText := true, laidKinds := [.data, .data, .data, .data, .sentinel, .sentinel, .pinned], laidTests := true, laidLooks := .later }
def SlicetextParsesUptoCardSaid : Prop := Claim7.holds Tryz.pinned (.plain (OpenSpec.upto slicetextParsesSpec)) slicetextParsesUptoCard

/-- THE SECOND FORM's CARD OF 'antecedelaw36.SlicetextBack'. -/
def slicetextBackUptoCard : Claim7 := { stood := { row := slicetextBackUptoRow, standIns := [], harness := (true, "44eddffa12a57bfae7a51751ce7af0109a58a86528fb5ba4e4d54cf7b865787c"), looks := true }, kinds := [], alts := [], laidByText := true, laidKinds := [.data, .data, .data, .data, .sentinel, .sentinel, .pinned], laidTests := true, laidLooks := .later }
def SlicetextBackUptoCardSaid : Prop := Claim7.holds Tryz.pinned (.plain (OpenSpec.upto slicetextBackSpec)) slicetextBackUptoCard

/-- THE SECOND FORM's CARD OF 'antecedelaw36.SlicetextTexts'. -/
def slicetextTextsUptoCard : Claim7 := { stood := { row := slicetextTextsUptoRow, standIns := [], harness := (true, "44eddffa12a57bfae7a51751ce7af0109a58a86528fb5ba4e4d54cf7b865787c"), looks := true }, kinds := [], alts := [], laidByText := true, laidKinds := [.data, .data, .data, .data, .sentinel, .sentinel, .pinned], laidTests := true, laidLooks := .later }
def SlicetextTextsUptoCardSaid : Prop := Claim7.holds Tryz.pinned (.plain (OpenSpec.upto slicetextTextsSpec)) slicetextTextsUptoCard

/-- THE SECOND FORM's CARD OF 'antecedelaw36.SlicetextRatios'. -/
def slicetextRatiosUptoCard : Claim7 := { stood := { row := slicetextRatiosUptoRow, standIns := [], harness := (true, "44eddffa12a57bfae7a51751ce7af0109a58a86528fb5ba4e4d54cf7b865787c"), looks := true }, kinds := [], alts := [], laidByText := true, laidKinds := [.data, .data, .data, .data, .sentinel, .sentinel, .pinned], laidTests := true, laidLooks := .later }
def SlicetextRatiosUptoCardSaid : Prop := Claim7.holds Tryz.pinned (.plain (OpenSpec.upto slicetextRatiosSpec)) slicetextRatiosUptoCard

/-- THE SECOND FORM's CARD OF 'antecedelaw36.SlicetextIdeals'. -/
def slicetextIdealsUptoCard : Claim7 := { stood := { row := slicetextIdealsUptoRow, standIns := [], harness := (true, "44eddffa12a57bfae7a51751ce7af0109a58a86528fb5ba4e4d54cf7b865787c"), looks := true }, kinds := [], alts := [], laidByText := true, laidKinds := [.data, .data, .data, .data, .sentinel, .sentinel, .pinned], laidTests := true, laidLooks := .later }
def SlicetextIdealsUptoCardSaid : Prop := Claim7.holds Tryz.pinned (.plain (OpenSpec.upto slicetextIdealsSpec)) slicetextIdealsUptoCard
end Rows
end Go.Proofs.YtlfdfkbmollaaaaGreatDoor
