/- Contracts and laws in plain Lean for RApp: group T34. -/
import Derived.Test.YtlfdfkbmollaaaaGreatDoorT20
import Derived.Test.YtlfdfkbmollaaaaGreatDoorT16
namespace Go.Proofs.YtlfdfkbmollaaaaGreatDoor
open Go.RowKit Go.Shelf
end Go.Proofs.YtlfdfkbmollaaaaGreatDoor
