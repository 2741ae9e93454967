/- Contracts and laws in plain Lean for RApp: group T81. -/
import Derived.Test.YtlfdfkbmollaaaaGreatDoorCards
import Derived.Test.YtlfdfkbmollaaaaGreatDoorTie
import Derived.Test.YtlfdfkbmollaaaaGreatDoorT76
import Derived.Deep.DeepHandedRow
import Derived.Lib.LaidTab
import Derived.Stop.LaidErr
import Derived.LaidSub
import Derived.Shelf.Vars
namespace Go.Proofs.YtlfdfkbmollaaaaGreatDoor
open Go.ChangeShapes Go.WideShapes Go.ChangeAt Go.RowKit
theorem gPowTy:(Tryz.prog.globals[2]?).map (·.type)=some 318:=by kernel_rfl
theorem cellsPow:Tryz.prog.cellsOf 318=20:=by kernel_rfl
theorem cellsU64:Tryz.prog.cellsOf 132=1:=by kernel_rfl
theorem powData:(Rows.laid_internal_strconv_uint64pow10:DataW Unit)=Lib.tabData .u64 Lib.pow10Tab:=by kernel_rfl
abbrev laid36 : List (String × DataW Unit) := [("math/bits.deBruijn32tab", Rows.laid_math_bits_deBruijn32tab), ("math/bits.deBruijn64tab", Rows.laid_math_bits_deBruijn64tab), ("internal/strconv.uint64pow10", Rows.laid_internal_strconv_uint64pow10), ("unicode/utf8.acceptRanges", Rows.laid_unicode_utf8_acceptRanges), ("strconv.ErrRange", Rows.laid_strconv_ErrRange), ("strconv.ErrSyntax", Rows.laid_strconv_ErrSyntax), ("unicode/utf8.first", Rows.laid_unicode_utf8_first)]
theorem laid36_plain:laid36.filter (fun x=>x.2.handleName?.isNone)=laid36:=by rfl
theorem tb_of {W:World} (h:laidMetH Tryz.prog laid36 W):Tb W:=by
 have h1:=(laidMetH_iff.1 h).1
 rw [laid36_plain] at h1
 have h2:=laidMet.tail (laidMet.tail h1)
 rw [powData] at h2
 exact Lib.tabIs_of_head gPow gPowTy Tryz.underlying318 Tryz.underlying132 cellsU64 cellsPow h2
theorem gErr : Tryz.prog.globalNamed "strconv.ErrRange" = some 4 := by kernel_rfl
theorem gErrTy:(Tryz.prog.globals[4]?).map (·.type)=some 105:=by kernel_rfl
theorem starE : "*" ++ "errors.errorString" = "*errors.errorString" := by decide
theorem rowE (u : TypeId) (h : Tryz.prog.typeName? 3 u = some "*errors.errorString") : u = 347 :=
 typeName_ptr_named (nm := "errors.errorString") (by rw [starE]; kernel_rfl) (by kernel_rfl) (by decide) u (by rw [starE]; exact h)
theorem cellsES:Tryz.prog.cellsOf 349=1:=by kernel_rfl
theorem cellsStr:Tryz.prog.cellsOf 9=1:=by kernel_rfl
theorem er_of {W:World} (h:laidMetH Tryz.prog laid36 W):∃ tp p,W.cell? ⟨4,0,none⟩=some (.iface tp p):=by
 have h1:=(laidMetH_iff.1 h).1
 rw [laid36_plain] at h1
 have h2:=laidMet.tail (laidMet.tail (laidMet.tail (laidMet.tail h1)))
 obtain ⟨a,s,hv,_⟩:=laid_sentinel h2 gErr gErrTy Tryz.underlying105 rowE Tryz.underlying347 Tryz.underlying349 rfl rfl Tryz.underlying9 cellsES cellsStr
 exact ⟨_,_,World.var?_cell gErr hv 0⟩
theorem ml_of {W:World} (h:W.ShapedOpen Tryz.prog):MaxB W:=
 cell_of_shapedOpen_int (P:=Tryz.prog) (g:=0) (t:=3) (zero:=#[.int .i64 0]) h (of_decide_eq_true (by kernel_rfl)) (by kernel_rfl) rfl (by kernel_rfl) (by kernel_rfl) Tryz.underlying3
theorem lib_of {W:World} (h:laidMetH Tryz.prog laid36 W) (hs:W.ShapedOpen Tryz.prog):LibB W:=⟨ml_of hs,tb_of h,er_of h⟩
def dat1:DataW Unit→List Value
 | .lit (.int k n) => [.int k n]
 | _ => []
def dat2:DataW Unit→List Value
 | .agg l => l.flatMap fun d => match d with
  | .agg m => m.flatMap dat1
  | d => dat1 d
 | _ => []
def putG (h:Array Obj) (g:Nat) (cs:List Value):Array Obj:=h.modify g fun
 | .cells _ t frozen => .cells cs.toArray t frozen
 | o => o
abbrev rangeS:ByteArray:={ data:=#[118,97,108,117,101,32,111,117,116,32,111,102,32,114,97,110,103,101] }
abbrev syntaxS:ByteArray:={ data:=#[105,110,118,97,108,105,100,32,115,121,110,116,97,120] }
noncomputable def low36:Nat:=(World.holding Tryz.prog default ⟨#[],#[],[]⟩).heap.size
noncomputable def laidWorld (os:Os):World:=
 { World.holding Tryz.prog os ⟨#[.cells #[.string rangeS] 349,.cells #[.string syntaxS] 349],#[],[]⟩ with
  heap:=putG (putG (putG (putG (putG (putG (putG (World.holding Tryz.prog os ⟨#[.cells #[.string rangeS] 349,.cells #[.string syntaxS] 349],#[],[]⟩).heap 7 (dat2 Rows.laid_math_bits_deBruijn32tab)) 1 (dat2 Rows.laid_math_bits_deBruijn64tab)) 2 (dat2 Rows.laid_internal_strconv_uint64pow10)) 6 (dat2 Rows.laid_unicode_utf8_acceptRanges)) 5 (dat2 Rows.laid_unicode_utf8_first)) 4 [.iface 347 (.pointer (some ⟨low36,0,none⟩))]) 3 [.iface 347 (.pointer (some ⟨low36+1,0,none⟩))] }
end Go.Proofs.YtlfdfkbmollaaaaGreatDoor
