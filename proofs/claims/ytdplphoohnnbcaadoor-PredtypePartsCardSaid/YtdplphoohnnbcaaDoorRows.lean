/-
  NARROWER THAN 'FOR EVERY INPUT', by the rows' own cells (each row's printed sentence says how): PredtypeArithmetic: loops, laid · PredtypeTypes: loops, laid · PredtypeValues: laid · PredtypeParts: loops, laid.
  DERIVED. THE GIVEN ROWS OF THIS SEAT. 4 by the template 'for every input the law returns true; each argument reads behind the call as it read before'; 0 by the template 'total and deterministic' (their statements: YtdplphoohnnbcaaDoorTotals.lean).
  GIVEN WITH THE SEED: the statements are not yours to turn. If you find one false, say at which input.
  Laid BY PROGRAM, IN A SANDBOX (cutbox-rows.mjs): the forced cells as the released guide's own fill.sh prints them over the translation bfb21ed14568fc12… (all of the seat's roots in one cut). By AI agents, Wed Nov 11 2026. No macro, syntax, notation, axiom, sorry.
-/
import Derived.Test.YtdplphoohnnbcaaDoorChecked
import GoSem.Claim
import GoSem.ClaimJoined
import GoSem.ClaimMapViews
import Derived.JoinedTies
import Derived.KernelRfl
namespace Go.Proofs.YtdplphoohnnbcaaDoor
/- THE CELL 'sum', in the pinned program and in every row, IS THE sha256 OF THE DUMP (.gsa) THAT YtdplphoohnnbcaaDoorProg.lean LOADS. Nothing in Lean hashes anything: it is a label: what it is worth is what the hold of that sum in a sandbox is worth. -/
noncomputable def Tryd.pinned : Pinned := { name := "ytdplphoohnnbcaadoor", sum := "bfb21ed14568fc12402d0e17e4da30bc5ceaad03eedd05a6c5d57342305c0028", checked := Tryd.checked }
namespace Rows
def none {H : Type} : Left H := { results := [], args := [] }

/- WHAT THE LISTED PACKAGE-LEVEL VARIABLES READ AS WHEN THE CALL BEGINS. Each datum BY PROGRAM (the guide's laid-datum.mjs) off the statement by which the dump's own 'gosem.cut.vars' lays the variable. In a bare row this is a premise. The card (YtdplphoohnnbcaaDoorCards.lean) ties it to the program's text. -/
def laid_antecede_predtype_parts {H : Type} : DataW H := .agg [.lit (.int .i64 (-1)), .lit (.int .i64 0), .lit (.int .i64 0), .lit (.int .i64 0), .lit (.int .i64 0), .lit (.int .i64 1), .lit (.int .i64 2), .lit (.int .i64 2), .lit (.int .i64 2), .lit (.int .i64 2), .lit (.int .i64 2), .lit (.int .i64 2), .lit (.int .i64 2), .lit (.int .i64 0), .lit (.int .i64 0), .lit (.int .i64 1), .lit (.int .i64 2), .lit (.int .i64 2), .lit (.int .i64 1), .lit (.int .i64 1), .lit (.int .i64 1), .lit (.int .i64 1)]

/-- 'antecedelaw28.PredtypeArithmetic': WHATEVER THE INPUT: true; the input reads as it did. -/
def predtypeArithmeticSpec : ChangeSpec := { name := "predtypeArithmetic", fn := fun _ => fun
  | [d1, d2, d3] => { results := [.lit (.bool true)], args := [d1, d2, d3] }
  | _ => none }
def predtypeArithmeticRow : OpenClaim := { program := "ytdplphoohnnbcaadoor", sum := "bfb21ed14568fc12402d0e17e4da30bc5ceaad03eedd05a6c5d57342305c0028", func := "antecede/antecedelaw28.PredtypeArithmetic", spec := "predtypeArithmetic", unfollowed := true, recurses := true, named := ["antecede/predtype.parts"], loops := true, plainKeys := false, apart := false, laid := [("antecede/predtype.parts", laid_antecede_predtype_parts)] }
def PredtypeArithmeticSaid : Prop := predtypeArithmeticRow.holds Tryd.pinned (OpenSpec.ofChange predtypeArithmeticSpec)

/-- ITS FALSE NEIGHBOUR: 'it returns false'. Refute it at one input. -/
def predtypeArithmeticWrong : ChangeSpec := { name := "predtypeArithmetic", fn := fun _ => fun
  | [d1, d2, d3] => { results := [.lit (.bool false)], args := [d1, d2, d3] }
  | _ => none }
def PredtypeArithmeticWrongFalsely : Prop := predtypeArithmeticRow.holds Tryd.pinned (OpenSpec.ofChange predtypeArithmeticWrong)

/-- 'antecedelaw28.PredtypeTypes': WHATEVER THE INPUT: true; the input reads as it did. -/
def predtypeTypesSpec : ChangeSpec := { name := "predtypeTypes", fn := fun _ => fun
  | [d] => { results := [.lit (.bool true)], args := [d] }
  | _ => none }
def predtypeTypesRow : OpenClaim := { program := "ytdplphoohnnbcaadoor", sum := "bfb21ed14568fc12402d0e17e4da30bc5ceaad03eedd05a6c5d57342305c0028", func := "antecede/antecedelaw28.PredtypeTypes", spec := "predtypeTypes", unfollowed := true, recurses := true, named := ["antecede/predtype.parts"], loops := true, plainKeys := false, apart := false, laid := [("antecede/predtype.parts", laid_antecede_predtype_parts)] }
def PredtypeTypesSaid : Prop := predtypeTypesRow.holds Tryd.pinned (OpenSpec.ofChange predtypeTypesSpec)

/-- ITS FALSE NEIGHBOUR: 'it returns false'. Refute it at one input. -/
def predtypeTypesWrong : ChangeSpec := { name := "predtypeTypes", fn := fun _ => fun
  | [d] => { results := [.lit (.bool false)], args := [d] }
  | _ => none }
def PredtypeTypesWrongFalsely : Prop := predtypeTypesRow.holds Tryd.pinned (OpenSpec.ofChange predtypeTypesWrong)

/-- 'antecedelaw28.PredtypeValues': WHATEVER THE INPUT: true; the input reads as it did. -/
def predtypeValuesSpec : ChangeSpec := { name := "predtypeValues", fn := fun _ => fun
  | [d1, d2, d3] => { results := [.lit (.bool true)], args := [d1, d2, d3] }
  | _ => none }
def predtypeValuesRow : OpenClaim := { program := "ytdplphoohnnbcaadoor", sum := "bfb21ed14568fc12402d0e17e4da30bc5ceaad03eedd05a6c5d57342305c0028", func := "antecede/antecedelaw28.PredtypeValues", spec := "predtypeValues", unfollowed := true, recurses := true, named := ["antecede/predtype.parts"], plainKeys := false, apart := false, laid := [("antecede/predtype.parts", laid_antecede_predtype_parts)] }
def PredtypeValuesSaid : Prop := predtypeValuesRow.holds Tryd.pinned (OpenSpec.ofChange predtypeValuesSpec)

/-- ITS FALSE NEIGHBOUR: 'it returns false'. Refute it at one input. -/
def predtypeValuesWrong : ChangeSpec := { name := "predtypeValues", fn := fun _ => fun
  | [d1, d2, d3] => { results := [.lit (.bool false)], args := [d1, d2, d3] }
  | _ => none }
def PredtypeValuesWrongFalsely : Prop := predtypeValuesRow.holds Tryd.pinned (OpenSpec.ofChange predtypeValuesWrong)

/-- 'antecedelaw28.PredtypeParts': WHATEVER THE INPUT: true; the input reads as it did. -/
def predtypePartsSpec : ChangeSpec := { name := "predtypeParts", fn := fun _ => fun
  | [d1, d2] => { results := [.lit (.bool true)], args := [d1, d2] }
  | _ => none }
def predtypePartsRow : OpenClaim := { program := "ytdplphoohnnbcaadoor", sum := "bfb21ed14568fc12402d0e17e4da30bc5ceaad03eedd05a6c5d57342305c0028", func := "antecede/antecedelaw28.PredtypeParts", spec := "predtypeParts", inPlace := ["internal/bytealg.IndexByteString", "internal/bytealg.IndexString"], unfollowed := true, recurses := true, named := ["antecede/predtype.parts", "internal/bytealg.MaxLen"], loops := true, plainKeys := false, apart := false, laid := [("antecede/predtype.parts", laid_antecede_predtype_parts)] }
def PredtypePartsSaid : Prop := predtypePartsRow.holds Tryd.pinned (OpenSpec.ofChange predtypePartsSpec)

/-- ITS FALSE NEIGHBOUR: 'it returns false'. Refute it at one input. -/
def predtypePartsWrong : ChangeSpec := { name := "predtypeParts", fn := fun _ => fun
  | [d1, d2] => { results := [.lit (.bool false)], args := [d1, d2] }
  | _ => none }
def PredtypePartsWrongFalsely : Prop := predtypePartsRow.holds Tryd.pinned (OpenSpec.ofChange predtypePartsWrong)

/- THE SECOND FORM. 'bulk': how many values and letters a reading holds, each counted each time it is reached (what is shared counts as often as it is met; a slice's spare places count too). A statement '..UptoSaid' is the law's where the arguments, and the package variables that the reading takes, are together of bulk at most 1048576: NARROWER than '..Said'. Prove '..Said' where nothing that the law and all that it calls make is longer than what came in: it says more and counts as full. Else prove '..UptoSaid'. A law counts once. -/
mutual
def uptoBulk {H : Type} : DataW H → Nat
  | .lit (.string bytes) => bytes.length + 1
  | .lit _ => 1
  | .nil => 1
  | .ptr d => uptoBulk d + 1
  | .slice elems spare => uptoBulkAll elems + uptoBulkAll spare + 1
  | .agg parts => uptoBulkAll parts + 1
  | .iface _ d => uptoBulk d + 1
  | .map entries => uptoBulkEntries entries + 1
  | .held _ => 1
def uptoBulkAll {H : Type} : List (DataW H) → Nat
  | [] => 0
  | d :: r => uptoBulk d + uptoBulkAll r
def uptoBulkEntries {H : Type} : List (Lit × DataW H) → Nat
  | [] => 0
  | x :: r => uptoBulkEntry x + uptoBulkEntries r
def uptoBulkEntry {H : Type} : Lit × DataW H → Nat
  | (.string bytes, d) => bytes.length + uptoBulk d + 1
  | (_, d) => uptoBulk d + 1
 end
def uptoSmall : (H : Type) → List (DataW H) → Bool := fun _ ds => decide (uptoBulkAll ds ≤ 1048576)
def OpenSpec.upto (s : _root_.Go.ChangeSpec) : _root_.Go.OpenSpec := { _root_.Go.OpenSpec.ofChange s with cond := some uptoSmall }

/-- 'antecedelaw28.PredtypeArithmetic', WHERE WHAT IT READS IS OF BULK AT MOST 1048576: true; the input reads as it did. -/
def predtypeArithmeticUptoRow : OpenClaim := { program := "ytdplphoohnnbcaadoor", sum := "bfb21ed14568fc12402d0e17e4da30bc5ceaad03eedd05a6c5d57342305c0028", func := "antecede/antecedelaw28.PredtypeArithmetic", spec := "predtypeArithmetic", unfollowed := true, recurses := true, named := ["antecede/predtype.parts"], loops := true, plainKeys := false, apart := false, laid := [("antecede/predtype.parts", laid_antecede_predtype_parts)], narrowed := true }
def PredtypeArithmeticUptoSaid : Prop := predtypeArithmeticUptoRow.holds Tryd.pinned (OpenSpec.upto predtypeArithmeticSpec)

/-- 'antecedelaw28.PredtypeTypes', WHERE WHAT IT READS IS OF BULK AT MOST 1048576: true; the input reads as it did. -/
def predtypeTypesUptoRow : OpenClaim := { program := "ytdplphoohnnbcaadoor", sum := "bfb21ed14568fc12402d0e17e4da30bc5ceaad03eedd05a6c5d57342305c0028", func := "antecede/antecedelaw28.PredtypeTypes", spec := "predtypeTypes", unfollowed := true, recurses := true, named := ["antecede/predtype.parts"], loops := true, plainKeys := false, apart := false, laid := [("antecede/predtype.parts", laid_antecede_predtype_parts)], narrowed := true }
def PredtypeTypesUptoSaid : Prop := predtypeTypesUptoRow.holds Tryd.pinned (OpenSpec.upto predtypeTypesSpec)

/-- 'antecedelaw28.PredtypeValues', WHERE WHAT IT READS IS OF BULK AT MOST 1048576: true; the input reads as it did. -/
def predtypeValuesUptoRow : OpenClaim := { program := "ytdplphoohnnbcaadoor", sum := "bfb21ed14568fc12402d0e17e4da30bc5ceaad03eedd05a6c5d57342305c0028", func := "antecede/antecedelaw28.PredtypeValues", spec := "predtypeValues", unfollowed := true, recurses := true, named := ["antecede/predtype.parts"], plainKeys := false, apart := false, laid := [("antecede/predtype.parts", laid_antecede_predtype_parts)], narrowed := true }
def PredtypeValuesUptoSaid : Prop := predtypeValuesUptoRow.holds Tryd.pinned (OpenSpec.upto predtypeValuesSpec)

/-- 'antecedelaw28.PredtypeParts', WHERE WHAT IT READS IS OF BULK AT MOST 1048576: true; the input reads as it did. -/
def predtypePartsUptoRow : OpenClaim := { program := "ytdplphoohnnbcaadoor", sum := "bfb21ed14568fc12402d0e17e4da30bc5ceaad03eedd05a6c5d57342305c0028", func := "antecede/antecedelaw28.PredtypeParts", spec := "predtypeParts", inPlace := ["internal/bytealg.IndexByteString", "internal/bytealg.IndexString"], unfollowed := true, recurses := true, named := ["antecede/predtype.parts", "internal/bytealg.MaxLen"], loops := true, plainKeys := false, apart := false, laid := [("antecede/predtype.parts", laid_antecede_predtype_parts)], narrowed := true }
def PredtypePartsUptoSaid : Prop := predtypePartsUptoRow.holds Tryd.pinned (OpenSpec.upto predtypePartsSpec)

end Rows
end Go.Proofs.YtdplphoohnnbcaaDoor
