/- Contracts and laws in plain Lean for RApp: group P73. -/
import Derived.Test.YtmhapcnlpoilpaaGreatDoorCards
import Derived.Test.YtmhapcnlpoilpaaGreatDoorTie
import Derived.Test.YtmhapcnlpoilpaaGreatDoorP65
import Derived.Deep.DeepHandedRow
import Derived.Lib.LaidTab
import Derived.Stop.LaidErr
import Derived.LaidSub
import Derived.Test.YtmhapcnlpoilpaaGreatDoorP72
import Derived.Test.YtmhapcnlpoilpaaGreatDoorP71
import Derived.Test.YtmhapcnlpoilpaaGreatDoorP69
import Derived.Test.YtmhapcnlpoilpaaGreatDoorP16
import Derived.Test.YtmhapcnlpoilpaaGreatDoorP18
namespace Go.Proofs.YtmhapcnlpoilpaaGreatDoor
open Go.ChangeShapes Go.WideShapes Go.ChangeAt Go.RowKit
theorem gPowTy:(Tryz.prog.globals[3]?).map (·.type)=some 251:=by kernel_rfl
theorem cellsPow:Tryz.prog.cellsOf 251=20:=by kernel_rfl
theorem cellsU64:Tryz.prog.cellsOf 231=1:=by kernel_rfl
theorem powData:(Rows.laid_internal_strconv_uint64pow10:DataW Unit)=Lib.tabData .u64 Lib.pow10Tab:=by kernel_rfl
abbrev laid56 : List (String × DataW Unit) := [("math/bits.deBruijn32tab", Rows.laid_math_bits_deBruijn32tab), ("math/bits.deBruijn64tab", Rows.laid_math_bits_deBruijn64tab), ("internal/strconv.uint64pow10", Rows.laid_internal_strconv_uint64pow10), ("unicode/utf8.acceptRanges", Rows.laid_unicode_utf8_acceptRanges), ("unicode/utf8.first", Rows.laid_unicode_utf8_first)]
theorem laid56_plain:laid56.filter (fun x=>x.2.handleName?.isNone)=laid56:=by rfl
theorem tb_of {W:World} (h:laidMetH Tryz.prog laid56 W):Tb W:=by
 have h1:=(laidMetH_iff.1 h).1
 rw [laid56_plain] at h1
 have h2 : laidMet Tryz.prog [("internal/strconv.uint64pow10", Rows.laid_internal_strconv_uint64pow10), ("unicode/utf8.acceptRanges", Rows.laid_unicode_utf8_acceptRanges), ("unicode/utf8.first", Rows.laid_unicode_utf8_first)] W := laidMet.tail (laidMet.tail h1)
 rw [powData] at h2
 exact Lib.tabIs_of_head gPow gPowTy Tryz.underlying251 Tryz.underlying231 cellsU64 cellsPow h2
def dat1:DataW Unit→List Value
 | .lit (.int k n) => [.int k n]
 | _ => []
def dat2:DataW Unit→List Value
 | .agg l => l.flatMap fun d => match d with
  | .agg m => m.flatMap dat1
  | d => dat1 d
 | _ => []
def putG (h:Array Obj) (g:Nat) (cs:List Value):Array Obj:=h.modify g fun
 | .cells _ t frozen => .cells cs.toArray t frozen
 | o => o
noncomputable def laidWorld (os:Os):World:=
 { World.holding Tryz.prog os ⟨#[],#[],[]⟩ with
  heap:=putG (putG (putG (putG (putG (World.holding Tryz.prog os ⟨#[],#[],[]⟩).heap 4 (dat2 Rows.laid_math_bits_deBruijn32tab)) 5 (dat2 Rows.laid_math_bits_deBruijn64tab)) 3 (dat2 Rows.laid_internal_strconv_uint64pow10)) 2 (dat2 Rows.laid_unicode_utf8_acceptRanges)) 1 (dat2 Rows.laid_unicode_utf8_first) }
end Go.Proofs.YtmhapcnlpoilpaaGreatDoor

namespace Go.Proofs.YtmhapcnlpoilpaaGreatDoor.diagramColumns
open Go.ChangeShapes Go.WideShapes Go.ChangeAt Go.RowKit Go.Proofs.YtmhapcnlpoilpaaGreatDoor
set_option linter.unusedVariables false
end Go.Proofs.YtmhapcnlpoilpaaGreatDoor.diagramColumns
