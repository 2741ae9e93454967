/- Contract of the law's few: it says no, or the trace has at most 10 processes and 80 events. Contract: lamport.Check. Contract of antecederef14: Latest. Contract of antecederef14: Check; it is the program's condition. antecederef14.Stamps: plain part: numbers are raised until nothing changes. A table of numbers: rows of the call's own, each in a block of its own (as the table of bools of antecederef12.Past). Contract of antecederef14: Stamps. -/
import Derived.Test.YtnknkkmdbnaglaaGreatKc
import Derived.Test.YtnknkkmdbnaglaaGreatKb
import Derived.Test.YtnknkkmdbnaglaaGreatKg
import Derived.Deep.LoopGhost
import Derived.Test.YtnknkkmdbnaglaaGreatKp
import Derived.Test.YtnknkkmdbnaglaaGreatKo
import Derived.Test.YtnknkkmdbnaglaaGreatKh
namespace Go.Proofs.YtnknkkmdbnaglaaGreat
open Go.RowKit Go.Shelf
end Go.Proofs.YtnknkkmdbnaglaaGreat

namespace Go.Proofs.YtnknkkmdbnaglaaGreat
open Go.RowKit Go.Shelf
end Go.Proofs.YtnknkkmdbnaglaaGreat

namespace Go.Proofs.YtnknkkmdbnaglaaGreat
open Go.RowKit Go.Shelf
end Go.Proofs.YtnknkkmdbnaglaaGreat

namespace Go.Proofs.YtnknkkmdbnaglaaGreat
open Go.RowKit Go.Shelf
end Go.Proofs.YtnknkkmdbnaglaaGreat

namespace Go.Proofs.YtnknkkmdbnaglaaGreat
end Go.Proofs.YtnknkkmdbnaglaaGreat

namespace Go.Proofs.YtnknkkmdbnaglaaGreat
open Go.RowKit Go.Shelf
end Go.Proofs.YtnknkkmdbnaglaaGreat

namespace Go.Proofs.YtnknkkmdbnaglaaGreat
open Go.RowKit Go.Shelf
end Go.Proofs.YtnknkkmdbnaglaaGreat
