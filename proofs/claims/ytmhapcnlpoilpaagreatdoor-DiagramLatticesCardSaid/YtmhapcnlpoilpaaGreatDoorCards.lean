/-
  DERIVED. GIVEN WITH THE SEED: THE CARDS: each row of YtmhapcnlpoilpaaGreatDoorRows.lean that lists a variable, with what it lists TIED to the program's text (the seventh form; the later family's looks); each row that meets fmt, with fmt's text TOLD by the authors' own Lean function (tested against real Go, not proved from fmt's source: count such statements apart). THE CARD IS WHAT COUNTS. Prove the row's statement (the work); the ties are given (YtmhapcnlpoilpaaGreatDoorTie.lean); close each card by the builder's one call (the guide's Derived/Test/ToyasCard.lean, 'card_holds'). Laid BY PROGRAM, IN A SANDBOX (cutbox-door.mjs). By AI agents, Wed Nov 11 2026. No macro, syntax, notation, axiom, sorry.
-/
import Derived.Test.YtmhapcnlpoilpaaGreatDoorRows
import GoSem.ClaimSeven
namespace Go.Proofs.YtmhapcnlpoilpaaGreatDoor
namespace Rows

/-- THE TIED CARD OF 'antecedelaw56.DiagramDraws'. -/
def diagramDrawsCard : Claim7 := { stood := { row := diagramDrawsRow, standIns := [], harness := (true, "a36ea32fdca06e30bc0f25bd637c68f9f6f85c5d34f19e0a2800a0c9add80b06"), looks := false }, kinds := [], alts := [], laidByText := true, laidKinds := [.data, .data, .data, .data, .pinned], laidTests := true, laidLooks := .later }
def DiagramDrawsCardSaid : Prop := Claim7.holds Tryz.pinned (.plain (OpenSpec.ofChange diagramDrawsSpec)) diagramDrawsCard

/-- THE TIED CARD OF 'antecedelaw56.DiagramColumns'. -/
def diagramColumnsCard : Claim7 := { stood := { row := diagramColumnsRow, standIns := [], harness := (true, "a36ea32fdca06e30bc0f25bd637c68f9f6f85c5d34f19e0a2800a0c9add80b06"), looks := false }, kinds := [], alts := [], laidByText := true, laidKinds := [.data, .data, .data, .data, .pinned], laidTests := true, laidLooks := .later }
def DiagramColumnsCardSaid : Prop := Claim7.holds Tryz.pinned (.plain (OpenSpec.ofChange diagramColumnsSpec)) diagramColumnsCard

/-- THE TIED CARD OF 'antecedelaw56.DiagramShape'. -/
def diagramShapeCard : Claim7 := { stood := { row := diagramShapeRow, standIns := [], harness := (true, "a36ea32fdca06e30bc0f25bd637c68f9f6f85c5d34f19e0a2800a0c9add80b06"), looks := false }, kinds := [], alts := [], laidByText := true, laidKinds := [.data, .data, .data, .data, .pinned], laidTests := true, laidLooks := .later }
def DiagramShapeCardSaid : Prop := Claim7.holds Tryz.pinned (.plain (OpenSpec.ofChange diagramShapeSpec)) diagramShapeCard

/-- THE TIED CARD OF 'antecedelaw56.DiagramLattices'. -/
def diagramLatticesCard : Claim7 := { stood := { row := diagramLatticesRow, standIns := [], harness := (true, "a36ea32fdca06e30bc0f25bd637c68f9f6f85c5d34f19e0a2800a0c9add80b06"), looks := false }, kinds := [], alts := [], laidByText := true, laidKinds := [.data, .data, .data, .data, .pinned], laidTests := true, laidLooks := .later }
def DiagramLatticesCardSaid : Prop := Claim7.holds Tryz.pinned (.plain (OpenSpec.ofChange diagramLatticesSpec)) diagramLatticesCard

/-- THE SECOND FORM's CARD OF 'antecedelaw56.DiagramDraws'. -/
def diagramDrawsUptoCard : Claim7 := { stood := { row := diagramDrawsUptoRow, standIns := [], harness := (true, "a36ea32fdca06e30bc0f25bd637c68f9f6f85c5d34f19e0a2800a0c9add80b06"), looks := false }, kinds := [], alts := [], laidByText := true, laidKinds := [.data, .data, .data, .data, .pinned], laidTests := true, laidLooks := .later }
def DiagramDrawsUptoCardSaid : Prop := Claim7.holds Tryz.pinned (.plain (OpenSpec.upto diagramDrawsSpec)) diagramDrawsUptoCard

/-- THE SECOND FORM's CARD OF 'antecedelaw56.DiagramColumns'. -/
def diagramColumnsUptoCard : Claim7 := { stood := { row := diagramColumnsUptoRow, standIns := [], harness := (true, "a36ea32fdca06e30bc0f25bd637c68f9f6f85c5d34f19e0a2800a0c9add80b06"), looks := false }, kinds := [], alts := [], laidByText := true, laidKinds := [.data, .data, .data, .data, .pinned], laidTests := true, laidLooks := .later }
def DiagramColumnsUptoCardSaid : Prop := Claim7.holds Tryz.pinned (.plain (OpenSpec.upto diagramColumnsSpec)) diagramColumnsUptoCard

/-- THE SECOND FORM's CARD OF 'antecedelaw56.DiagramShape'. -/
def diagramShapeUptoCard : Claim7 := { stood := { row := diagramShapeUptoRow, standIns := [], harness := (true, "a36ea32fdca06e30bc0f25bd637c68f9f6f85c5d34f19e0a2800a0c9add80b06"), looks := false }, kinds := [], alts := [], laidByText := true, laidKinds := [.data, .data, .data, .data, .pinned], laidTests := true, laidLooks := .later }
def DiagramShapeUptoCardSaid : Prop := Claim7.holds Tryz.pinned (.plain (OpenSpec.upto diagramShapeSpec)) diagramShapeUptoCard

/-- THE SECOND FORM's CARD OF 'antecedelaw56.DiagramLattices'. -/
def diagramLatticesUptoCard : Claim7 := { stood := { row := diagramLatticesUptoRow, standIns := [], harness := (true, "a36ea32fdca06e30bc0f25bd637c68f9f6f85c5d34f19e0a2800a0c9add80b06"), looks := false }, kinds := [], alts := [], laidByText := true, laidKinds := [.data, .data, .data, .data, .pinned], laidTests := true, laidLooks := .later }
def DiagramLatticesUptoCardSaid : Prop := Claim7.holds Tryz.pinned (.plain (OpenSpec.upto diagramLatticesSpec)) diagramLatticesUptoCard
end Rows
end Go.Proofs.YtmhapcnlpoilpaaGreatDoor
