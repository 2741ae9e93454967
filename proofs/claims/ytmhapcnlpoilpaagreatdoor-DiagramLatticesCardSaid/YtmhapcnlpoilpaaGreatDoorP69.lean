/- Contracts and laws in plain Lean for RApp: group P69. -/
import Derived.Test.YtmhapcnlpoilpaaGreatDoorP18
namespace Go.Proofs.YtmhapcnlpoilpaaGreatDoor
end Go.Proofs.YtmhapcnlpoilpaaGreatDoor
