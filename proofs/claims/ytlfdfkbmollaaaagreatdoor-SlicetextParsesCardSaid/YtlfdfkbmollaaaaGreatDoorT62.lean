/- Contracts and laws in plain Lean for RApp: group T62. -/
import Derived.Test.YtlfdfkbmollaaaaGreatDoorT60
import Derived.Test.YtlfdfkbmollaaaaGreatDoorT38
import Derived.Lib.AppendZeros
namespace Go.Proofs.YtlfdfkbmollaaaaGreatDoor
open Go.RowKit Go.Shelf
end Go.Proofs.YtlfdfkbmollaaaaGreatDoor
