/-
  No cell of these rows narrows 'for every input' (looked for: loops, veiled, ifaces, maps, wideKeys, modest, calm, conditions, laid).
  DERIVED. THE GIVEN ROWS OF THIS SEAT. 8 by the template 'for every input the law returns true; each argument reads behind the call as it read before'; 0 by the template 'total and deterministic' (their statements: YteikcgfnkhoigaaGreatTotals.lean).
  GIVEN WITH THE SEED: the statements are not yours to turn. If you find one false, say at which input.
  Laid BY PROGRAM, IN A SANDBOX (cutbox-rows.mjs): the forced cells as the released guide's own fill.sh prints them over the translation 17904a25d720b1ef… (all of the seat's roots in one cut). By AI agents, Wed Nov 11 2026. No macro, syntax, notation, axiom, sorry.
-/
import Derived.Test.YteikcgfnkhoigaaGreatChecked
import GoSem.Claim
import GoSem.ClaimJoined
import GoSem.ClaimMapViews
import Derived.JoinedTies
import Derived.KernelRfl
namespace Go.Proofs.YteikcgfnkhoigaaGreat
/- THE CELL 'sum', in the pinned program and in every row, IS THE sha256 OF THE DUMP (.gsa) THAT YteikcgfnkhoigaaGreatProg.lean LOADS. Nothing in Lean hashes anything: it is a label: what it is worth is what the hold of that sum in a sandbox is worth. -/
noncomputable def Tryz.pinned : Pinned := { name := "yteikcgfnkhoigaagreat", sum := "17904a25d720b1efa3d027f3bfc7c0d8402a7c08fc125b9b7a7ad9677f58af24", checked := Tryz.checked }
namespace Rows
def none {H : Type} : Left H := { results := [], args := [] }

/-- 'antecedelaw39.SumsEnds': WHATEVER THE INPUT: true; the input reads as it did. -/
def sumsEndsSpec : ChangeSpec := { name := "sumsEnds", fn := fun _ => fun
  | [d1, d2] => { results := [.lit (.bool true)], args := [d1, d2] }
  | _ => none }
def sumsEndsRow : OpenClaim := { program := "yteikcgfnkhoigaagreat", sum := "17904a25d720b1efa3d027f3bfc7c0d8402a7c08fc125b9b7a7ad9677f58af24", func := "antecede/antecedelaw39.SumsEnds", spec := "sumsEnds", unfollowed := true, recurses := true, plainKeys := false, apart := false }
def SumsEndsSaid : Prop := sumsEndsRow.holds Tryz.pinned (OpenSpec.ofChange sumsEndsSpec)

/-- ITS FALSE NEIGHBOUR: 'it returns false'. Refute it at one input. -/
def sumsEndsWrong : ChangeSpec := { name := "sumsEnds", fn := fun _ => fun
  | [d1, d2] => { results := [.lit (.bool false)], args := [d1, d2] }
  | _ => none }
def SumsEndsWrongFalsely : Prop := sumsEndsRow.holds Tryz.pinned (OpenSpec.ofChange sumsEndsWrong)

/-- 'antecedelaw39.SumsValues': WHATEVER THE INPUT: true; the input reads as it did. -/
def sumsValuesSpec : ChangeSpec := { name := "sumsValues", fn := fun _ => fun
  | [d1, d2, d3] => { results := [.lit (.bool true)], args := [d1, d2, d3] }
  | _ => none }
def sumsValuesRow : OpenClaim := { program := "yteikcgfnkhoigaagreat", sum := "17904a25d720b1efa3d027f3bfc7c0d8402a7c08fc125b9b7a7ad9677f58af24", func := "antecede/antecedelaw39.SumsValues", spec := "sumsValues", unfollowed := true, recurses := true, plainKeys := false, apart := false }
def SumsValuesSaid : Prop := sumsValuesRow.holds Tryz.pinned (OpenSpec.ofChange sumsValuesSpec)

/-- ITS FALSE NEIGHBOUR: 'it returns false'. Refute it at one input. -/
def sumsValuesWrong : ChangeSpec := { name := "sumsValues", fn := fun _ => fun
  | [d1, d2, d3] => { results := [.lit (.bool false)], args := [d1, d2, d3] }
  | _ => none }
def SumsValuesWrongFalsely : Prop := sumsValuesRow.holds Tryz.pinned (OpenSpec.ofChange sumsValuesWrong)

/-- 'antecedelaw39.SumsFlow': WHATEVER THE INPUT: true; the input reads as it did. -/
def sumsFlowSpec : ChangeSpec := { name := "sumsFlow", fn := fun _ => fun
  | [d1, d2, d3] => { results := [.lit (.bool true)], args := [d1, d2, d3] }
  | _ => none }
def sumsFlowRow : OpenClaim := { program := "yteikcgfnkhoigaagreat", sum := "17904a25d720b1efa3d027f3bfc7c0d8402a7c08fc125b9b7a7ad9677f58af24", func := "antecede/antecedelaw39.SumsFlow", spec := "sumsFlow", unfollowed := true, recurses := true, plainKeys := false, apart := false }
def SumsFlowSaid : Prop := sumsFlowRow.holds Tryz.pinned (OpenSpec.ofChange sumsFlowSpec)

/-- ITS FALSE NEIGHBOUR: 'it returns false'. Refute it at one input. -/
def sumsFlowWrong : ChangeSpec := { name := "sumsFlow", fn := fun _ => fun
  | [d1, d2, d3] => { results := [.lit (.bool false)], args := [d1, d2, d3] }
  | _ => none }
def SumsFlowWrongFalsely : Prop := sumsFlowRow.holds Tryz.pinned (OpenSpec.ofChange sumsFlowWrong)

/-- 'antecedelaw39.SumsOpposite': WHATEVER THE INPUT: true; the input reads as it did. -/
def sumsOppositeSpec : ChangeSpec := { name := "sumsOpposite", fn := fun _ => fun
  | [d1, d2, d3, d4, d5] => { results := [.lit (.bool true)], args := [d1, d2, d3, d4, d5] }
  | _ => none }
def sumsOppositeRow : OpenClaim := { program := "yteikcgfnkhoigaagreat", sum := "17904a25d720b1efa3d027f3bfc7c0d8402a7c08fc125b9b7a7ad9677f58af24", func := "antecede/antecedelaw39.SumsOpposite", spec := "sumsOpposite", unfollowed := true, recurses := true, plainKeys := false, apart := false }
def SumsOppositeSaid : Prop := sumsOppositeRow.holds Tryz.pinned (OpenSpec.ofChange sumsOppositeSpec)

/-- ITS FALSE NEIGHBOUR: 'it returns false'. Refute it at one input. -/
def sumsOppositeWrong : ChangeSpec := { name := "sumsOpposite", fn := fun _ => fun
  | [d1, d2, d3, d4, d5] => { results := [.lit (.bool false)], args := [d1, d2, d3, d4, d5] }
  | _ => none }
def SumsOppositeWrongFalsely : Prop := sumsOppositeRow.holds Tryz.pinned (OpenSpec.ofChange sumsOppositeWrong)

/-- 'antecedelaw14.LamportTotals': WHATEVER THE INPUT: true; the input reads as it did. -/
def lamportTotalsSpec : ChangeSpec := { name := "lamportTotals", fn := fun _ => fun
  | [d1, d2] => { results := [.lit (.bool true)], args := [d1, d2] }
  | _ => none }
def lamportTotalsRow : OpenClaim := { program := "yteikcgfnkhoigaagreat", sum := "17904a25d720b1efa3d027f3bfc7c0d8402a7c08fc125b9b7a7ad9677f58af24", func := "antecede/antecedelaw14.LamportTotals", spec := "lamportTotals", unfollowed := true, recurses := true, plainKeys := false, apart := false }
def LamportTotalsSaid : Prop := lamportTotalsRow.holds Tryz.pinned (OpenSpec.ofChange lamportTotalsSpec)

/-- ITS FALSE NEIGHBOUR: 'it returns false'. Refute it at one input. -/
def lamportTotalsWrong : ChangeSpec := { name := "lamportTotals", fn := fun _ => fun
  | [d1, d2] => { results := [.lit (.bool false)], args := [d1, d2] }
  | _ => none }
def LamportTotalsWrongFalsely : Prop := lamportTotalsRow.holds Tryz.pinned (OpenSpec.ofChange lamportTotalsWrong)

/-- 'antecedelaw14.LamportExtension': WHATEVER THE INPUT: true; the input reads as it did. -/
def lamportExtensionSpec : ChangeSpec := { name := "lamportExtension", fn := fun _ => fun
  | [d] => { results := [.lit (.bool true)], args := [d] }
  | _ => none }
def lamportExtensionRow : OpenClaim := { program := "yteikcgfnkhoigaagreat", sum := "17904a25d720b1efa3d027f3bfc7c0d8402a7c08fc125b9b7a7ad9677f58af24", func := "antecede/antecedelaw14.LamportExtension", spec := "lamportExtension", unfollowed := true, recurses := true, plainKeys := false, apart := false }
def LamportExtensionSaid : Prop := lamportExtensionRow.holds Tryz.pinned (OpenSpec.ofChange lamportExtensionSpec)

/-- ITS FALSE NEIGHBOUR: 'it returns false'. Refute it at one input. -/
def lamportExtensionWrong : ChangeSpec := { name := "lamportExtension", fn := fun _ => fun
  | [d] => { results := [.lit (.bool false)], args := [d] }
  | _ => none }
def LamportExtensionWrongFalsely : Prop := lamportExtensionRow.holds Tryz.pinned (OpenSpec.ofChange lamportExtensionWrong)

/-- 'antecedelaw39.SumsPossibly': WHATEVER THE INPUT: true; the input reads as it did. -/
def sumsPossiblySpec : ChangeSpec := { name := "sumsPossibly", fn := fun _ => fun
  | [d1, d2, d3, d4] => { results := [.lit (.bool true)], args := [d1, d2, d3, d4] }
  | _ => none }
def sumsPossiblyRow : OpenClaim := { program := "yteikcgfnkhoigaagreat", sum := "17904a25d720b1efa3d027f3bfc7c0d8402a7c08fc125b9b7a7ad9677f58af24", func := "antecede/antecedelaw39.SumsPossibly", spec := "sumsPossibly", unfollowed := true, recurses := true, plainKeys := false, apart := false }
def SumsPossiblySaid : Prop := sumsPossiblyRow.holds Tryz.pinned (OpenSpec.ofChange sumsPossiblySpec)

/-- ITS FALSE NEIGHBOUR: 'it returns false'. Refute it at one input. -/
def sumsPossiblyWrong : ChangeSpec := { name := "sumsPossibly", fn := fun _ => fun
  | [d1, d2, d3, d4] => { results := [.lit (.bool false)], args := [d1, d2, d3, d4] }
  | _ => none }
def SumsPossiblyWrongFalsely : Prop := sumsPossiblyRow.holds Tryz.pinned (OpenSpec.ofChange sumsPossiblyWrong)

/-- 'antecedelaw39.SumsSteps': WHATEVER THE INPUT: true; the input reads as it did. -/
def sumsStepsSpec : ChangeSpec := { name := "sumsSteps", fn := fun _ => fun
  | [d1, d2, d3] => { results := [.lit (.bool true)], args := [d1, d2, d3] }
  | _ => none }
def sumsStepsRow : OpenClaim := { program := "yteikcgfnkhoigaagreat", sum := "17904a25d720b1efa3d027f3bfc7c0d8402a7c08fc125b9b7a7ad9677f58af24", func := "antecede/antecedelaw39.SumsSteps", spec := "sumsSteps", unfollowed := true, recurses := true, plainKeys := false, apart := false }
def SumsStepsSaid : Prop := sumsStepsRow.holds Tryz.pinned (OpenSpec.ofChange sumsStepsSpec)

/-- ITS FALSE NEIGHBOUR: 'it returns false'. Refute it at one input. -/
def sumsStepsWrong : ChangeSpec := { name := "sumsSteps", fn := fun _ => fun
  | [d1, d2, d3] => { results := [.lit (.bool false)], args := [d1, d2, d3] }
  | _ => none }
def SumsStepsWrongFalsely : Prop := sumsStepsRow.holds Tryz.pinned (OpenSpec.ofChange sumsStepsWrong)

/- THE SECOND FORM. 'bulk': how many values and letters a reading holds, each counted each time it is reached (what is shared counts as often as it is met; a slice's spare places count too). A statement '..UptoSaid' is the law's where the arguments, and the package variables that the reading takes, are together of bulk at most 1048576: NARROWER than '..Said'. Prove '..Said' where nothing that the law and all that it calls make is longer than what came in: it says more and counts as full. Else prove '..UptoSaid'. A law counts once. -/
mutual
def uptoBulk {H : Type} : DataW H → Nat
  | .lit (.string bytes) => bytes.length + 1
  | .lit _ => 1
  | .nil => 1
  | .ptr d => uptoBulk d + 1
  | .slice elems spare => uptoBulkAll elems + uptoBulkAll spare + 1
  | .agg parts => uptoBulkAll parts + 1
  | .iface _ d => uptoBulk d + 1
  | .map entries => uptoBulkEntries entries + 1
  | .held _ => 1
def uptoBulkAll {H : Type} : List (DataW H) → Nat
  | [] => 0
  | d :: r => uptoBulk d + uptoBulkAll r
def uptoBulkEntries {H : Type} : List (Lit × DataW H) → Nat
  | [] => 0
  | x :: r => uptoBulkEntry x + uptoBulkEntries r
def uptoBulkEntry {H : Type} : Lit × DataW H → Nat
  | (.string bytes, d) => bytes.length + uptoBulk d + 1
  | (_, d) => uptoBulk d + 1
 end
def uptoSmall : (H : Type) → List (DataW H) → Bool := fun _ ds => decide (uptoBulkAll ds ≤ 1048576)
def OpenSpec.upto (s : _root_.Go.ChangeSpec) : _root_.Go.OpenSpec := { _root_.Go.OpenSpec.ofChange s with cond := some uptoSmall }

/-- 'antecedelaw39.SumsEnds', WHERE WHAT IT READS IS OF BULK AT MOST 1048576: true; the input reads as it did. -/
def sumsEndsUptoRow : OpenClaim := { program := "yteikcgfnkhoigaagreat", sum := "17904a25d720b1efa3d027f3bfc7c0d8402a7c08fc125b9b7a7ad9677f58af24", func := "antecede/antecedelaw39.SumsEnds", spec := "sumsEnds", unfollowed := true, recurses := true, plainKeys := false, apart := false, narrowed := true }
def SumsEndsUptoSaid : Prop := sumsEndsUptoRow.holds Tryz.pinned (OpenSpec.upto sumsEndsSpec)

/-- 'antecedelaw39.SumsValues', WHERE WHAT IT READS IS OF BULK AT MOST 1048576: true; the input reads as it did. -/
def sumsValuesUptoRow : OpenClaim := { program := "yteikcgfnkhoigaagreat", sum := "17904a25d720b1efa3d027f3bfc7c0d8402a7c08fc125b9b7a7ad9677f58af24", func := "antecede/antecedelaw39.SumsValues", spec := "sumsValues", unfollowed := true, recurses := true, plainKeys := false, apart := false, narrowed := true }
def SumsValuesUptoSaid : Prop := sumsValuesUptoRow.holds Tryz.pinned (OpenSpec.upto sumsValuesSpec)

/-- 'antecedelaw39.SumsFlow', WHERE WHAT IT READS IS OF BULK AT MOST 1048576: true; the input reads as it did. -/
def sumsFlowUptoRow : OpenClaim := { program := "yteikcgfnkhoigaagreat", sum := "17904a25d720b1efa3d027f3bfc7c0d8402a7c08fc125b9b7a7ad9677f58af24", func := "antecede/antecedelaw39.SumsFlow", spec := "sumsFlow", unfollowed := true, recurses := true, plainKeys := false, apart := false, narrowed := true }
def SumsFlowUptoSaid : Prop := sumsFlowUptoRow.holds Tryz.pinned (OpenSpec.upto sumsFlowSpec)

/-- 'antecedelaw39.SumsOpposite', WHERE WHAT IT READS IS OF BULK AT MOST 1048576: true; the input reads as it did. -/
def sumsOppositeUptoRow : OpenClaim := { program := "yteikcgfnkhoigaagreat", sum := "17904a25d720b1efa3d027f3bfc7c0d8402a7c08fc125b9b7a7ad9677f58af24", func := "antecede/antecedelaw39.SumsOpposite", spec := "sumsOpposite", unfollowed := true, recurses := true, plainKeys := false, apart := false, narrowed := true }
def SumsOppositeUptoSaid : Prop := sumsOppositeUptoRow.holds Tryz.pinned (OpenSpec.upto sumsOppositeSpec)

/-- 'antecedelaw14.LamportTotals', WHERE WHAT IT READS IS OF BULK AT MOST 1048576: true; the input reads as it did. -/
def lamportTotalsUptoRow : OpenClaim := { program := "yteikcgfnkhoigaagreat", sum := "17904a25d720b1efa3d027f3bfc7c0d8402a7c08fc125b9b7a7ad9677f58af24", func := "antecede/antecedelaw14.LamportTotals", spec := "lamportTotals", unfollowed := true, recurses := true, plainKeys := false, apart := false, narrowed := true }
def LamportTotalsUptoSaid : Prop := lamportTotalsUptoRow.holds Tryz.pinned (OpenSpec.upto lamportTotalsSpec)

/-- 'antecedelaw14.LamportExtension', WHERE WHAT IT READS IS OF BULK AT MOST 1048576: true; the input reads as it did. -/
def lamportExtensionUptoRow : OpenClaim := { program := "yteikcgfnkhoigaagreat", sum := "17904a25d720b1efa3d027f3bfc7c0d8402a7c08fc125b9b7a7ad9677f58af24", func := "antecede/antecedelaw14.LamportExtension", spec := "lamportExtension", unfollowed := true, recurses := true, plainKeys := false, apart := false, narrowed := true }
def LamportExtensionUptoSaid : Prop := lamportExtensionUptoRow.holds Tryz.pinned (OpenSpec.upto lamportExtensionSpec)

/-- 'antecedelaw39.SumsPossibly', WHERE WHAT IT READS IS OF BULK AT MOST 1048576: true; the input reads as it did. -/
def sumsPossiblyUptoRow : OpenClaim := { program := "yteikcgfnkhoigaagreat", sum := "17904a25d720b1efa3d027f3bfc7c0d8402a7c08fc125b9b7a7ad9677f58af24", func := "antecede/antecedelaw39.SumsPossibly", spec := "sumsPossibly", unfollowed := true, recurses := true, plainKeys := false, apart := false, narrowed := true }
def SumsPossiblyUptoSaid : Prop := sumsPossiblyUptoRow.holds Tryz.pinned (OpenSpec.upto sumsPossiblySpec)

/-- 'antecedelaw39.SumsSteps', WHERE WHAT IT READS IS OF BULK AT MOST 1048576: true; the input reads as it did. -/
def sumsStepsUptoRow : OpenClaim := { program := "yteikcgfnkhoigaagreat", sum := "17904a25d720b1efa3d027f3bfc7c0d8402a7c08fc125b9b7a7ad9677f58af24", func := "antecede/antecedelaw39.SumsSteps", spec := "sumsSteps", unfollowed := true, recurses := true, plainKeys := false, apart := false, narrowed := true }
def SumsStepsUptoSaid : Prop := sumsStepsUptoRow.holds Tryz.pinned (OpenSpec.upto sumsStepsSpec)

end Rows
end Go.Proofs.YteikcgfnkhoigaaGreat
