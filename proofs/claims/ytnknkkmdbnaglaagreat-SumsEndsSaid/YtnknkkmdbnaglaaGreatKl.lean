/- Contracts: antecederef14.SameInts, SameLists, slices.Equal at EventId. The example of chapter 14: its trace, its stamps, its longest chain, its skipped pairs. Plain. -/
import Derived.Test.YtnknkkmdbnaglaaGreatKk
import Derived.Test.YtnknkkmdbnaglaaGreatKe
namespace Go.Proofs.YtnknkkmdbnaglaaGreat
open Go.RowKit Go.Shelf
structure EvAt (w : World) (a : Option Addr) (b n : Nat) (l : Nat → Int × Int) : Prop where
 hn : n ≤ 140737488355328
 pa : 0 < n → a = some ⟨b, 0, none⟩
 pb : 0 < n → ∀ w', Ext w w' → b < w'.heap.size
 p0 : ∀ w', Ext w w' → ∀ k, k < n → w'.cell? ⟨b, k * 2, none⟩ = some (.int .i64 (l k).1)
 p1 : ∀ w', Ext w w' → ∀ k, k < n → w'.cell? ⟨b, k * 2 + 1, none⟩ = some (.int .i64 (l k).2)
end Go.Proofs.YtnknkkmdbnaglaaGreat

namespace Go.Proofs.YtnknkkmdbnaglaaGreat
end Go.Proofs.YtnknkkmdbnaglaaGreat
