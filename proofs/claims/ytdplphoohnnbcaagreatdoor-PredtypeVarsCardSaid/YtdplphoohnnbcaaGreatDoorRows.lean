/-
  NARROWER THAN 'FOR EVERY INPUT', by the rows' own cells (each row's printed sentence says how): PredtypeChecks: loops, laid · PredtypeResolves: loops, laid · PredtypeVars: loops, laid.
  DERIVED. THE GIVEN ROWS OF THIS SEAT. 3 by the template 'for every input the law returns true; each argument reads behind the call as it read before'; 0 by the template 'total and deterministic' (their statements: YtdplphoohnnbcaaGreatDoorTotals.lean).
  GIVEN WITH THE SEED: the statements are not yours to turn. If you find one false, say at which input.
  Laid BY PROGRAM, IN A SANDBOX (cutbox-rows.mjs): the forced cells as the released guide's own fill.sh prints them over the translation 3d45509772b7f8b2… (all of the seat's roots in one cut). By AI agents, Wed Nov 11 2026. No macro, syntax, notation, axiom, sorry.
-/
import Derived.Test.YtdplphoohnnbcaaGreatDoorChecked
import GoSem.Claim
import GoSem.ClaimJoined
import GoSem.ClaimMapViews
import Derived.JoinedTies
import Derived.KernelRfl
namespace Go.Proofs.YtdplphoohnnbcaaGreatDoor
/- THE CELL 'sum', in the pinned program and in every row, IS THE sha256 OF THE DUMP (.gsa) THAT YtdplphoohnnbcaaGreatDoorProg.lean LOADS. Nothing in Lean hashes anything: it is a label: what it is worth is what the hold of that sum in a sandbox is worth. -/
noncomputable def Tryz.pinned : Pinned := { name := "ytdplphoohnnbcaagreatdoor", sum := "3d45509772b7f8b28f66a29ac5fd0426118602e35df510e6ffc37c6e61b8d84b", checked := Tryz.checked }
namespace Rows
def none {H : Type} : Left H := { results := [], args := [] }

/- WHAT THE LISTED PACKAGE-LEVEL VARIABLES READ AS WHEN THE CALL BEGINS. Each datum BY PROGRAM (the guide's laid-datum.mjs) off the statement by which the dump's own 'gosem.cut.vars' lays the variable. In a bare row this is a premise. The card (YtdplphoohnnbcaaGreatDoorCards.lean) ties it to the program's text. -/
def laid_antecede_predtype_parts {H : Type} : DataW H := .agg [.lit (.int .i64 (-1)), .lit (.int .i64 0), .lit (.int .i64 0), .lit (.int .i64 0), .lit (.int .i64 0), .lit (.int .i64 1), .lit (.int .i64 2), .lit (.int .i64 2), .lit (.int .i64 2), .lit (.int .i64 2), .lit (.int .i64 2), .lit (.int .i64 2), .lit (.int .i64 2), .lit (.int .i64 0), .lit (.int .i64 0), .lit (.int .i64 1), .lit (.int .i64 2), .lit (.int .i64 2), .lit (.int .i64 1), .lit (.int .i64 1), .lit (.int .i64 1), .lit (.int .i64 1)]

/-- 'antecedelaw28.PredtypeChecks': WHATEVER THE INPUT: true; the input reads as it did. -/
def predtypeChecksSpec : ChangeSpec := { name := "predtypeChecks", fn := fun _ => fun
  | [d1, d2] => { results := [.lit (.bool true)], args := [d1, d2] }
  | _ => none }
def predtypeChecksRow : OpenClaim := { program := "ytdplphoohnnbcaagreatdoor", sum := "3d45509772b7f8b28f66a29ac5fd0426118602e35df510e6ffc37c6e61b8d84b", func := "antecede/antecedelaw28.PredtypeChecks", spec := "predtypeChecks", unfollowed := true, recurses := true, named := ["antecede/predtype.parts"], loops := true, plainKeys := false, apart := false, laid := [("antecede/predtype.parts", laid_antecede_predtype_parts)] }
def PredtypeChecksSaid : Prop := predtypeChecksRow.holds Tryz.pinned (OpenSpec.ofChange predtypeChecksSpec)

/-- ITS FALSE NEIGHBOUR: 'it returns false'. Refute it at one input. -/
def predtypeChecksWrong : ChangeSpec := { name := "predtypeChecks", fn := fun _ => fun
  | [d1, d2] => { results := [.lit (.bool false)], args := [d1, d2] }
  | _ => none }
def PredtypeChecksWrongFalsely : Prop := predtypeChecksRow.holds Tryz.pinned (OpenSpec.ofChange predtypeChecksWrong)

/-- 'antecedelaw28.PredtypeResolves': WHATEVER THE INPUT: true; the input reads as it did. -/
def predtypeResolvesSpec : ChangeSpec := { name := "predtypeResolves", fn := fun _ => fun
  | [d1, d2] => { results := [.lit (.bool true)], args := [d1, d2] }
  | _ => none }
def predtypeResolvesRow : OpenClaim := { program := "ytdplphoohnnbcaagreatdoor", sum := "3d45509772b7f8b28f66a29ac5fd0426118602e35df510e6ffc37c6e61b8d84b", func := "antecede/antecedelaw28.PredtypeResolves", spec := "predtypeResolves", inPlace := ["internal/bytealg.IndexByteString", "internal/bytealg.IndexString"], unfollowed := true, recurses := true, named := ["antecede/predtype.parts", "internal/bytealg.MaxLen"], loops := true, plainKeys := false, apart := false, laid := [("antecede/predtype.parts", laid_antecede_predtype_parts)] }
def PredtypeResolvesSaid : Prop := predtypeResolvesRow.holds Tryz.pinned (OpenSpec.ofChange predtypeResolvesSpec)

/-- ITS FALSE NEIGHBOUR: 'it returns false'. Refute it at one input. -/
def predtypeResolvesWrong : ChangeSpec := { name := "predtypeResolves", fn := fun _ => fun
  | [d1, d2] => { results := [.lit (.bool false)], args := [d1, d2] }
  | _ => none }
def PredtypeResolvesWrongFalsely : Prop := predtypeResolvesRow.holds Tryz.pinned (OpenSpec.ofChange predtypeResolvesWrong)

/-- 'antecedelaw28.PredtypeVars': WHATEVER THE INPUT: true; the input reads as it did. -/
def predtypeVarsSpec : ChangeSpec := { name := "predtypeVars", fn := fun _ => fun
  | [d] => { results := [.lit (.bool true)], args := [d] }
  | _ => none }
def predtypeVarsRow : OpenClaim := { program := "ytdplphoohnnbcaagreatdoor", sum := "3d45509772b7f8b28f66a29ac5fd0426118602e35df510e6ffc37c6e61b8d84b", func := "antecede/antecedelaw28.PredtypeVars", spec := "predtypeVars", inPlace := ["internal/bytealg.abigen_runtime_cmpstring"], unfollowed := true, recurses := true, named := ["antecede/predtype.parts"], loops := true, plainKeys := false, apart := false, laid := [("antecede/predtype.parts", laid_antecede_predtype_parts)] }
def PredtypeVarsSaid : Prop := predtypeVarsRow.holds Tryz.pinned (OpenSpec.ofChange predtypeVarsSpec)

/-- ITS FALSE NEIGHBOUR: 'it returns false'. Refute it at one input. -/
def predtypeVarsWrong : ChangeSpec := { name := "predtypeVars", fn := fun _ => fun
  | [d] => { results := [.lit (.bool false)], args := [d] }
  | _ => none }
def PredtypeVarsWrongFalsely : Prop := predtypeVarsRow.holds Tryz.pinned (OpenSpec.ofChange predtypeVarsWrong)

/- THE SECOND FORM. 'bulk': how many values and letters a reading holds, each counted each time it is reached (what is shared counts as often as it is met; a slice's spare places count too). A statement '..UptoSaid' is the law's where the arguments, and the package variables that the reading takes, are together of bulk at most 1048576: NARROWER than '..Said'. Prove '..Said' where nothing that the law and all that it calls make is longer than what came in: it says more and counts as full. Else prove '..UptoSaid'. A law counts once. -/
mutual
def uptoBulk {H : Type} : DataW H → Nat
  | .lit (.string bytes) => bytes.length + 1
  | .lit _ => 1
  | .nil => 1
  | .ptr d => uptoBulk d + 1
  | .slice elems spare => uptoBulkAll elems + uptoBulkAll spare + 1
  | .agg parts => uptoBulkAll parts + 1
  | .iface _ d => uptoBulk d + 1
  | .map entries => uptoBulkEntries entries + 1
  | .held _ => 1
def uptoBulkAll {H : Type} : List (DataW H) → Nat
  | [] => 0
  | d :: r => uptoBulk d + uptoBulkAll r
def uptoBulkEntries {H : Type} : List (Lit × DataW H) → Nat
  | [] => 0
  | x :: r => uptoBulkEntry x + uptoBulkEntries r
def uptoBulkEntry {H : Type} : Lit × DataW H → Nat
  | (.string bytes, d) => bytes.length + uptoBulk d + 1
  | (_, d) => uptoBulk d + 1
 end
def uptoSmall : (H : Type) → List (DataW H) → Bool := fun _ ds => decide (uptoBulkAll ds ≤ 1048576)
def OpenSpec.upto (s : _root_.Go.ChangeSpec) : _root_.Go.OpenSpec := { _root_.Go.OpenSpec.ofChange s with cond := some uptoSmall }

/-- 'antecedelaw28.PredtypeChecks', WHERE WHAT IT READS IS OF BULK AT MOST 1048576: true; the input reads as it did. -/
def predtypeChecksUptoRow : OpenClaim := { program := "ytdplphoohnnbcaagreatdoor", sum := "3d45509772b7f8b28f66a29ac5fd0426118602e35df510e6ffc37c6e61b8d84b", func := "antecede/antecedelaw28.PredtypeChecks", spec := "predtypeChecks", unfollowed := true, recurses := true, named := ["antecede/predtype.parts"], loops := true, plainKeys := false, apart := false, laid := [("antecede/predtype.parts", laid_antecede_predtype_parts)], narrowed := true }
def PredtypeChecksUptoSaid : Prop := predtypeChecksUptoRow.holds Tryz.pinned (OpenSpec.upto predtypeChecksSpec)

/-- 'antecedelaw28.PredtypeResolves', WHERE WHAT IT READS IS OF BULK AT MOST 1048576: true; the input reads as it did. -/
def predtypeResolvesUptoRow : OpenClaim := { program := "ytdplphoohnnbcaagreatdoor", sum := "3d45509772b7f8b28f66a29ac5fd0426118602e35df510e6ffc37c6e61b8d84b", func := "antecede/antecedelaw28.PredtypeResolves", spec := "predtypeResolves", inPlace := ["internal/bytealg.IndexByteString", "internal/bytealg.IndexString"], unfollowed := true, recurses := true, named := ["antecede/predtype.parts", "internal/bytealg.MaxLen"], loops := true, plainKeys := false, apart := false, laid := [("antecede/predtype.parts", laid_antecede_predtype_parts)], narrowed := true }
def PredtypeResolvesUptoSaid : Prop := predtypeResolvesUptoRow.holds Tryz.pinned (OpenSpec.upto predtypeResolvesSpec)

/-- 'antecedelaw28.PredtypeVars', WHERE WHAT IT READS IS OF BULK AT MOST 1048576: true; the input reads as it did. -/
def predtypeVarsUptoRow : OpenClaim := { program := "ytdplphoohnnbcaagreatdoor", sum := "3d45509772b7f8b28f66a29ac5fd0426118602e35df510e6ffc37c6e61b8d84b", func := "antecede/antecedelaw28.PredtypeVars", spec := "predtypeVars", inPlace := ["internal/bytealg.abigen_runtime_cmpstring"], unfollowed := true, recurses := true, named := ["antecede/predtype.parts"], loops := true, plainKeys := false, apart := false, laid := [("antecede/predtype.parts", laid_antecede_predtype_parts)], narrowed := true }
def PredtypeVarsUptoSaid : Prop := predtypeVarsUptoRow.holds Tryz.pinned (OpenSpec.upto predtypeVarsSpec)

end Rows
end Go.Proofs.YtdplphoohnnbcaaGreatDoor
