/- Contracts and laws in plain Lean for SPos: group Ul. -/
import Derived.Test.YtnknkkmdbnaglaaGreatUa
import Derived.Test.YtnknkkmdbnaglaaGreatKb
import Derived.Test.YtnknkkmdbnaglaaGreatUe
import Derived.Deep.LoopGhost
import Derived.Test.YtnknkkmdbnaglaaGreatUk
import Derived.Test.YtnknkkmdbnaglaaGreatUj
namespace Go.Proofs.YtnknkkmdbnaglaaGreat
open Go.RowKit Go.Shelf
end Go.Proofs.YtnknkkmdbnaglaaGreat

namespace Go.Proofs.YtnknkkmdbnaglaaGreat
end Go.Proofs.YtnknkkmdbnaglaaGreat

namespace Go.Proofs.YtnknkkmdbnaglaaGreat
open Go.RowKit Go.Shelf
end Go.Proofs.YtnknkkmdbnaglaaGreat
