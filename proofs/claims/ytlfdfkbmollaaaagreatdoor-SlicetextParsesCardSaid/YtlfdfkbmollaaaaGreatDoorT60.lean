/- Contracts and laws in plain Lean for RApp: group T60. -/
import Derived.Test.YtlfdfkbmollaaaaGreatDoorT01
import Derived.Shelf.SlLaysF
import Derived.Test.YtlfdfkbmollaaaaGreatDoorT40
import Derived.Shelf.SlSortCmp.NoneTotal
import Derived.Test.YtlfdfkbmollaaaaGreatDoorT42
namespace Go.Proofs.YtlfdfkbmollaaaaGreatDoor
open Go.Shelf Go.Proofs
end Go.Proofs.YtlfdfkbmollaaaaGreatDoor

namespace Go.Proofs.YtlfdfkbmollaaaaGreatDoor
open Go.RowKit Go.Shelf Go.Proofs
end Go.Proofs.YtlfdfkbmollaaaaGreatDoor

namespace Go.Proofs.YtlfdfkbmollaaaaGreatDoor
open Go.RowKit Go.Shelf
end Go.Proofs.YtlfdfkbmollaaaaGreatDoor
