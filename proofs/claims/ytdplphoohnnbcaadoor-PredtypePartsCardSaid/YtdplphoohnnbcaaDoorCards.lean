/-
  DERIVED. GIVEN WITH THE SEED: THE CARDS: each row of YtdplphoohnnbcaaDoorRows.lean that lists a variable, with what it lists TIED to the program's text (the seventh form; the later family's looks); each row that meets fmt, with fmt's text TOLD by the authors' own Lean function (tested against real Go, not proved from fmt's source: count such statements apart). THE CARD IS WHAT COUNTS. Prove the row's statement (the work); the ties are given (YtdplphoohnnbcaaDoorTie.lean); close each card by the builder's one call (the guide's Derived/Test/ToyasCard.lean, 'card_holds'). Laid BY PROGRAM, IN A SANDBOX (cutbox-door.mjs). By AI agents, Wed Nov 11 2026. No macro, syntax, notation, axiom, sorry.
-/
import Derived.Test.YtdplphoohnnbcaaDoorRows
import GoSem.ClaimSeven
namespace Go.Proofs.YtdplphoohnnbcaaDoor
namespace Rows

/-- THE TIED CARD OF 'antecedelaw28.PredtypeArithmetic'. -/
def predtypeArithmeticCard : Claim7 := { stood := { row := predtypeArithmeticRow, standIns := [], harness := (true, "35ba02e621f0143240622f06bdd9ffd4a74b045e48ff443b4a8a9223013d236a"), looks := false }, kinds := [], alts := [], laidByText := true, laidKinds := [.data], laidTests := true, laidLooks := .later }
def PredtypeArithmeticCardSaid : Prop := Claim7.holds Tryd.pinned (.plain (OpenSpec.ofChange predtypeArithmeticSpec)) predtypeArithmeticCard

/-- THE TIED CARD OF 'antecedelaw28.PredtypeTypes'. -/
def predtypeTypesCard : Claim7 := { stood := { row := predtypeTypesRow, standIns := [], harness := (true, "35ba02e621f0143240622f06bdd9ffd4a74b045e48ff443b4a8a9223013d236a"), looks := false }, kinds := [], alts := [], laidByText := true, laidKinds := [.data], laidTests := true, laidLooks := .later }
def PredtypeTypesCardSaid : Prop := Claim7.holds Tryd.pinned (.plain (OpenSpec.ofChange predtypeTypesSpec)) predtypeTypesCard

/-- THE TIED CARD OF 'antecedelaw28.PredtypeValues'. -/
def predtypeValuesCard : Claim7 := { stood := { row := predtypeValuesRow, standIns := [], harness := (true, "35ba02e621f0143240622f06bdd9ffd4a74b045e48ff443b4a8a9223013d236a"), looks := false }, kinds := [], alts := [], laidByText := true, laidKinds := [.data], laidTests := true, laidLooks := .later }
def PredtypeValuesCardSaid : Prop := Claim7.holds Tryd.pinned (.plain (OpenSpec.ofChange predtypeValuesSpec)) predtypeValuesCard

/-- THE TIED CARD OF 'antecedelaw28.PredtypeParts'. -/
def predtypePartsCard : Claim7 := { stood := { row := predtypePartsRow, standIns := [], harness := (true, "35ba02e621f0143240622f06bdd9ffd4a74b045e48ff443b4a8a9223013d236a"), looks := false }, kinds := [], alts := [], laidByText := true, laidKinds := [.data], laidTests := true, laidLooks := .later }
def PredtypePartsCardSaid : Prop := Claim7.holds Tryd.pinned (.plain (OpenSpec.ofChange predtypePartsSpec)) predtypePartsCard

/-- THE SECOND FORM's CARD OF 'antecedelaw28.PredtypeArithmetic'. -/
def predtypeArithmeticUptoCard : Claim7 := { stood := { row := predtypeArithmeticUptoRow, standIns := [], harness := (true, "35ba02e621f0143240622f06bdd9ffd4a74b045e48ff443b4a8a9223013d236a"), looks := false }, kinds := [], alts := [], laidByText := true, laidKinds := [.data], laidTests := true, laidLooks := .later }
def PredtypeArithmeticUptoCardSaid : Prop := Claim7.holds Tryd.pinned (.plain (OpenSpec.upto predtypeArithmeticSpec)) predtypeArithmeticUptoCard

/-- THE SECOND FORM's CARD OF 'antecedelaw28.PredtypeTypes'. -/
def predtypeTypesUptoCard : Claim7 := { stood := { row := predtypeTypesUptoRow, standIns := [], harness := (true, "35ba02e621f0143240622f06bdd9ffd4a74b045e48ff443b4a8a9223013d236a"), looks := false }, kinds := [], alts := [], laidByText := true, laidKinds := [.data], laidTests := true, laidLooks := .later }
def PredtypeTypesUptoCardSaid : Prop := Claim7.holds Tryd.pinned (.plain (OpenSpec.upto predtypeTypesSpec)) predtypeTypesUptoCard

/-- THE SECOND FORM's CARD OF 'antecedelaw28.PredtypeValues'. -/
def predtypeValuesUptoCard : Claim7 := { stood := { row := predtypeValuesUptoRow, standIns := [], harness := (true, "35ba02e621f0143240622f06bdd9ffd4a74b045e48ff443b4a8a9223013d236a"), looks := false }, kinds := [], alts := [], laidByText := true, laidKinds := [.data], laidTests := true, laidLooks := .later }
def PredtypeValuesUptoCardSaid : Prop := Claim7.holds Tryd.pinned (.plain (OpenSpec.upto predtypeValuesSpec)) predtypeValuesUptoCard

/-- THE SECOND FORM's CARD OF 'antecedelaw28.PredtypeParts'. -/
def predtypePartsUptoCard : Claim7 := { stood := { row := predtypePartsUptoRow, standIns := [], harness := (true, "35ba02e621f0143240622f06bdd9ffd4a74b045e48ff443b4a8a9223013d236a"), looks := false }, kinds := [], alts := [], laidByText := true, laidKinds := [.data], laidTests := true, laidLooks := .later }
def PredtypePartsUptoCardSaid : Prop := Claim7.holds Tryd.pinned (.plain (OpenSpec.upto predtypePartsSpec)) predtypePartsUptoCard
end Rows
end Go.Proofs.YtdplphoohnnbcaaDoor
