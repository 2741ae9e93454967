/-
  DERIVED. GIVEN WITH THE SEED: THE CARDS: each row of YtdplphoohnnbcaaGreatDoorRows.lean that lists a variable, with what it lists TIED to the program's text (the seventh form; the later family's looks); each row that meets fmt, with fmt's text TOLD by the authors' own Lean function (tested against real Go, not proved from fmt's source: count such statements apart). THE CARD IS WHAT COUNTS. Prove the row's statement (the work); the ties are given (YtdplphoohnnbcaaGreatDoorTie.lean); close each card by the builder's one call (the guide's Derived/Test/ToyasCard.lean, 'card_holds'). Laid BY PROGRAM, IN A SANDBOX (cutbox-door.mjs). By AI agents, Wed Nov 11 2026. No macro, syntax, notation, axiom, sorry.
-/
import Derived.Test.YtdplphoohnnbcaaGreatDoorRows
import GoSem.ClaimSeven
namespace Go.Proofs.YtdplphoohnnbcaaGreatDoor
namespace Rows

/-- THE TIED CARD OF 'antecedelaw28.PredtypeChecks'. -/
def predtypeChecksCard : Claim7 := { stood := { row := predtypeChecksRow, standIns := [], harness := (true, "fd2431dee2dbbe9f27454b6c481227fcde0274c85ecd4cf2b88ac85b6ed68103"), looks := false }, kinds := [], alts := [], laidByText := true, laidKinds := [.data], laidTests := true, laidLooks := .later }
def PredtypeChecksCardSaid : Prop := Claim7.holds Tryz.pinned (.plain (OpenSpec.ofChange predtypeChecksSpec)) predtypeChecksCard

/-- THE TIED CARD OF 'antecedelaw28.PredtypeResolves'. -/
def predtypeResolvesCard : Claim7 := { stood := { row := predtypeResolvesRow, standIns := [], harness := (true, "fd2431dee2dbbe9f27454b6c481227fcde0274c85ecd4cf2b88ac85b6ed68103"), looks := false }, kinds := [], alts := [], laidByText := true, laidKinds := [.data], laidTests := true, laidLooks := .later }
def PredtypeResolvesCardSaid : Prop := Claim7.holds Tryz.pinned (.plain (OpenSpec.ofChange predtypeResolvesSpec)) predtypeResolvesCard

/-- THE TIED CARD OF 'antecedelaw28.PredtypeVars'. -/
def predtypeVarsCard : Claim7 := { stood := { row := predtypeVarsRow, standIns := [], harness := (true, "fd2431dee2dbbe9f27454b6c481227fcde0274c85ecd4cf2b88ac85b6ed68103"), looks := false }, kinds := [], alts := [], laidByText := true, laidKinds := [.data], laidTests := true, laidLooks := .later }
def PredtypeVarsCardSaid : Prop := Claim7.holds Tryz.pinned (.plain (OpenSpec.ofChange predtypeVarsSpec)) predtypeVarsCard

/-- THE SECOND FORM's CARD OF 'antecedelaw28.PredtypeChecks'. -/
def predtypeChecksUptoCard : Claim7 := { stood := { row := predtypeChecksUptoRow, standIns := [], harness := (true, "fd2431dee2dbbe9f27454b6c481227fcde0274c85ecd4cf2b88ac85b6ed68103"), looks := false }, kinds := [], alts := [], laidByText := true, laidKinds := [.data], laidTests := true, laidLooks := .later }
def PredtypeChecksUptoCardSaid : Prop := Claim7.holds Tryz.pinned (.plain (OpenSpec.upto predtypeChecksSpec)) predtypeChecksUptoCard

/-- THE SECOND FORM's CARD OF 'antecedelaw28.PredtypeResolves'. -/
def predtypeResolvesUptoCard : Claim7 := { stood := { row := predtypeResolvesUptoRow, standIns := [], harness := (true, "fd2431dee2dbbe9f27454b6c481227fcde0274c85ecd4cf2b88ac85b6ed68103"), looks := false }, kinds := [], alts := [], laidByText := true, laidKinds := [.data], laidTests := true, laidLooks := .later }
def PredtypeResolvesUptoCardSaid : Prop := Claim7.holds Tryz.pinned (.plain (OpenSpec.upto predtypeResolvesSpec)) predtypeResolvesUptoCard

/-- THE SECOND FORM's CARD OF 'antecedelaw28.PredtypeVars'. -/
def predtypeVarsUptoCard : Claim7 := { stood := { row := predtypeVarsUptoRow, standIns := [], harness := (true, "fd2431dee2dbbe9f27454b6c481227fcde0274c85ecd4cf2b88ac85b6ed68103"), looks := false }, kinds := [], alts := [], laidByText := true, laidKinds := [.data], laidTests := true, laidLooks := .later }
def PredtypeVarsUptoCardSaid : Prop := Claim7.holds Tryz.pinned (.plain (OpenSpec.upto predtypeVarsSpec)) predtypeVarsUptoCard
end Rows
end Go.Proofs.YtdplphoohnnbcaaGreatDoor
