/-
  No cell of these rows narrows 'for every input' (looked for: loops, veiled, ifaces, maps, wideKeys, modest, calm, conditions, laid).
  DERIVED. THE GIVEN ROWS OF THIS SEAT. 12 by the template 'for every input the law returns true; each argument reads behind the call as it read before'; 0 by the template 'total and deterministic' (their statements: YtnknkkmdbnaglaaGreatTotals.lean).
  GIVEN WITH THE SEED: the statements are not yours to turn. If you find one false, say at which input.
  Laid BY PROGRAM, IN A SANDBOX (cutbox-rows.mjs): the forced cells as the released guide's own fill.sh prints them over the translation 76b0384fc514fc82… (all of the seat's roots in one cut). By AI agents, Wed Nov 11 2026. No macro, syntax, notation, axiom, sorry.
-/
import Derived.Test.YtnknkkmdbnaglaaGreatChecked
import GoSem.Claim
import GoSem.ClaimJoined
import GoSem.ClaimMapViews
import Derived.JoinedTies
import Derived.KernelRfl
namespace Go.Proofs.YtnknkkmdbnaglaaGreat
/- THE CELL 'sum', in the pinned program and in every row, IS THE sha256 OF THE DUMP (.gsa) THAT YtnknkkmdbnaglaaGreatProg.lean LOADS. Nothing in Lean hashes anything: it is a label: what it is worth is what the hold of that sum in a sandbox is worth. -/
noncomputable def Tryz.pinned : Pinned := { name := "ytnknkkmdbnaglaagreat", sum := "76b0384fc514fc826a45ed6d7ce0c0904ddb6d5b0908a36c5e3f4186ca672ba2", checked := Tryz.checked }
namespace Rows
def none {H : Type} : Left H := { results := [], args := [] }

/-- 'antecedelaw39.SumsEnds': WHATEVER THE INPUT: true; the input reads as it did. -/
def sumsEndsSpec : ChangeSpec := { name := "sumsEnds", fn := fun _ => fun
  | [d1, d2] => { results := [.lit (.bool true)], args := [d1, d2] }
  | _ => none }
def sumsEndsRow : OpenClaim := { program := "ytnknkkmdbnaglaagreat", sum := "76b0384fc514fc826a45ed6d7ce0c0904ddb6d5b0908a36c5e3f4186ca672ba2", func := "antecede/antecedelaw39.SumsEnds", spec := "sumsEnds", unfollowed := true, recurses := true, plainKeys := false, apart := false }
def SumsEndsSaid : Prop := sumsEndsRow.holds Tryz.pinned (OpenSpec.ofChange sumsEndsSpec)

/-- ITS FALSE NEIGHBOUR: 'it returns false'. Refute it at one input. -/
def sumsEndsWrong : ChangeSpec := { name := "sumsEnds", fn := fun _ => fun
  | [d1, d2] => { results := [.lit (.bool false)], args := [d1, d2] }
  | _ => none }
def SumsEndsWrongFalsely : Prop := sumsEndsRow.holds Tryz.pinned (OpenSpec.ofChange sumsEndsWrong)

/-- 'antecedelaw39.SumsValues': WHATEVER THE INPUT: true; the input reads as it did. -/
def sumsValuesSpec : ChangeSpec := { name := "sumsValues", fn := fun _ => fun
  | [d1, d2, d3] => { results := [.lit (.bool true)], args := [d1, d2, d3] }
  | _ => none }
def sumsValuesRow : OpenClaim := { program := "ytnknkkmdbnaglaagreat", sum := "76b0384fc514fc826a45ed6d7ce0c0904ddb6d5b0908a36c5e3f4186ca672ba2", func := "antecede/antecedelaw39.SumsValues", spec := "sumsValues", unfollowed := true, recurses := true, plainKeys := false, apart := false }
def SumsValuesSaid : Prop := sumsValuesRow.holds Tryz.pinned (OpenSpec.ofChange sumsValuesSpec)

/-- ITS FALSE NEIGHBOUR: 'it returns false'. Refute it at one input. -/
def sumsValuesWrong : ChangeSpec := { name := "sumsValues", fn := fun _ => fun
  | [d1, d2, d3] => { results := [.lit (.bool false)], args := [d1, d2, d3] }
  | _ => none }
def SumsValuesWrongFalsely : Prop := sumsValuesRow.holds Tryz.pinned (OpenSpec.ofChange sumsValuesWrong)

/-- 'antecedelaw39.SumsFlow': WHATEVER THE INPUT: true; the input reads as it did. -/
def sumsFlowSpec : ChangeSpec := { name := "sumsFlow", fn := fun _ => fun
  | [d1, d2, d3] => { results := [.lit (.bool true)], args := [d1, d2, d3] }
  | _ => none }
def sumsFlowRow : OpenClaim := { program := "ytnknkkmdbnaglaagreat", sum := "76b0384fc514fc826a45ed6d7ce0c0904ddb6d5b0908a36c5e3f4186ca672ba2", func := "antecede/antecedelaw39.SumsFlow", spec := "sumsFlow", unfollowed := true, recurses := true, plainKeys := false, apart := false }
def SumsFlowSaid : Prop := sumsFlowRow.holds Tryz.pinned (OpenSpec.ofChange sumsFlowSpec)

/-- ITS FALSE NEIGHBOUR: 'it returns false'. Refute it at one input. -/
def sumsFlowWrong : ChangeSpec := { name := "sumsFlow", fn := fun _ => fun
  | [d1, d2, d3] => { results := [.lit (.bool false)], args := [d1, d2, d3] }
  | _ => none }
def SumsFlowWrongFalsely : Prop := sumsFlowRow.holds Tryz.pinned (OpenSpec.ofChange sumsFlowWrong)

/-- 'antecedelaw39.SumsOpposite': WHATEVER THE INPUT: true; the input reads as it did. -/
def sumsOppositeSpec : ChangeSpec := { name := "sumsOpposite", fn := fun _ => fun
  | [d1, d2, d3, d4, d5] => { results := [.lit (.bool true)], args := [d1, d2, d3, d4, d5] }
  | _ => none }
def sumsOppositeRow : OpenClaim := { program := "ytnknkkmdbnaglaagreat", sum := "76b0384fc514fc826a45ed6d7ce0c0904ddb6d5b0908a36c5e3f4186ca672ba2", func := "antecede/antecedelaw39.SumsOpposite", spec := "sumsOpposite", unfollowed := true, recurses := true, plainKeys := false, apart := false }
def SumsOppositeSaid : Prop := sumsOppositeRow.holds Tryz.pinned (OpenSpec.ofChange sumsOppositeSpec)

/-- ITS FALSE NEIGHBOUR: 'it returns false'. Refute it at one input. -/
def sumsOppositeWrong : ChangeSpec := { name := "sumsOpposite", fn := fun _ => fun
  | [d1, d2, d3, d4, d5] => { results := [.lit (.bool false)], args := [d1, d2, d3, d4, d5] }
  | _ => none }
def SumsOppositeWrongFalsely : Prop := sumsOppositeRow.holds Tryz.pinned (OpenSpec.ofChange sumsOppositeWrong)

/-- 'antecedelaw45.ReplayApplies': WHATEVER THE INPUT: true; the input reads as it did. -/
def replayAppliesSpec : ChangeSpec := { name := "replayApplies", fn := fun _ => fun
  | [d1, d2] => { results := [.lit (.bool true)], args := [d1, d2] }
  | _ => none }
def replayAppliesRow : OpenClaim := { program := "ytnknkkmdbnaglaagreat", sum := "76b0384fc514fc826a45ed6d7ce0c0904ddb6d5b0908a36c5e3f4186ca672ba2", func := "antecede/antecedelaw45.ReplayApplies", spec := "replayApplies", unfollowed := true, recurses := true, plainKeys := false, apart := false }
def ReplayAppliesSaid : Prop := replayAppliesRow.holds Tryz.pinned (OpenSpec.ofChange replayAppliesSpec)

/-- ITS FALSE NEIGHBOUR: 'it returns false'. Refute it at one input. -/
def replayAppliesWrong : ChangeSpec := { name := "replayApplies", fn := fun _ => fun
  | [d1, d2] => { results := [.lit (.bool false)], args := [d1, d2] }
  | _ => none }
def ReplayAppliesWrongFalsely : Prop := replayAppliesRow.holds Tryz.pinned (OpenSpec.ofChange replayAppliesWrong)

/-- 'antecedelaw45.ReplayPermits': WHATEVER THE INPUT: true; the input reads as it did. -/
def replayPermitsSpec : ChangeSpec := { name := "replayPermits", fn := fun _ => fun
  | [d1, d2, d3] => { results := [.lit (.bool true)], args := [d1, d2, d3] }
  | _ => none }
def replayPermitsRow : OpenClaim := { program := "ytnknkkmdbnaglaagreat", sum := "76b0384fc514fc826a45ed6d7ce0c0904ddb6d5b0908a36c5e3f4186ca672ba2", func := "antecede/antecedelaw45.ReplayPermits", spec := "replayPermits", unfollowed := true, recurses := true, plainKeys := false, apart := false }
def ReplayPermitsSaid : Prop := replayPermitsRow.holds Tryz.pinned (OpenSpec.ofChange replayPermitsSpec)

/-- ITS FALSE NEIGHBOUR: 'it returns false'. Refute it at one input. -/
def replayPermitsWrong : ChangeSpec := { name := "replayPermits", fn := fun _ => fun
  | [d1, d2, d3] => { results := [.lit (.bool false)], args := [d1, d2, d3] }
  | _ => none }
def ReplayPermitsWrongFalsely : Prop := replayPermitsRow.holds Tryz.pinned (OpenSpec.ofChange replayPermitsWrong)

/-- 'antecedelaw45.ReplayLists': WHATEVER THE INPUT: true; the input reads as it did. -/
def replayListsSpec : ChangeSpec := { name := "replayLists", fn := fun _ => fun
  | [d1, d2, d3] => { results := [.lit (.bool true)], args := [d1, d2, d3] }
  | _ => none }
def replayListsRow : OpenClaim := { program := "ytnknkkmdbnaglaagreat", sum := "76b0384fc514fc826a45ed6d7ce0c0904ddb6d5b0908a36c5e3f4186ca672ba2", func := "antecede/antecedelaw45.ReplayLists", spec := "replayLists", unfollowed := true, recurses := true, plainKeys := false, apart := false }
def ReplayListsSaid : Prop := replayListsRow.holds Tryz.pinned (OpenSpec.ofChange replayListsSpec)

/-- ITS FALSE NEIGHBOUR: 'it returns false'. Refute it at one input. -/
def replayListsWrong : ChangeSpec := { name := "replayLists", fn := fun _ => fun
  | [d1, d2, d3] => { results := [.lit (.bool false)], args := [d1, d2, d3] }
  | _ => none }
def ReplayListsWrongFalsely : Prop := replayListsRow.holds Tryz.pinned (OpenSpec.ofChange replayListsWrong)

/-- 'antecedelaw45.ReplayControls': WHATEVER THE INPUT: true; the input reads as it did. -/
def replayControlsSpec : ChangeSpec := { name := "replayControls", fn := fun _ => fun
  | [d1, d2] => { results := [.lit (.bool true)], args := [d1, d2] }
  | _ => none }
def replayControlsRow : OpenClaim := { program := "ytnknkkmdbnaglaagreat", sum := "76b0384fc514fc826a45ed6d7ce0c0904ddb6d5b0908a36c5e3f4186ca672ba2", func := "antecede/antecedelaw45.ReplayControls", spec := "replayControls", unfollowed := true, recurses := true, plainKeys := false, apart := false }
def ReplayControlsSaid : Prop := replayControlsRow.holds Tryz.pinned (OpenSpec.ofChange replayControlsSpec)

/-- ITS FALSE NEIGHBOUR: 'it returns false'. Refute it at one input. -/
def replayControlsWrong : ChangeSpec := { name := "replayControls", fn := fun _ => fun
  | [d1, d2] => { results := [.lit (.bool false)], args := [d1, d2] }
  | _ => none }
def ReplayControlsWrongFalsely : Prop := replayControlsRow.holds Tryz.pinned (OpenSpec.ofChange replayControlsWrong)

/-- 'antecedelaw45.ReplayRuns': WHATEVER THE INPUT: true; the input reads as it did. -/
def replayRunsSpec : ChangeSpec := { name := "replayRuns", fn := fun _ => fun
  | [d1, d2, d3, d4] => { results := [.lit (.bool true)], args := [d1, d2, d3, d4] }
  | _ => none }
def replayRunsRow : OpenClaim := { program := "ytnknkkmdbnaglaagreat", sum := "76b0384fc514fc826a45ed6d7ce0c0904ddb6d5b0908a36c5e3f4186ca672ba2", func := "antecede/antecedelaw45.ReplayRuns", spec := "replayRuns", unfollowed := true, recurses := true, plainKeys := false, apart := false }
def ReplayRunsSaid : Prop := replayRunsRow.holds Tryz.pinned (OpenSpec.ofChange replayRunsSpec)

/-- ITS FALSE NEIGHBOUR: 'it returns false'. Refute it at one input. -/
def replayRunsWrong : ChangeSpec := { name := "replayRuns", fn := fun _ => fun
  | [d1, d2, d3, d4] => { results := [.lit (.bool false)], args := [d1, d2, d3, d4] }
  | _ => none }
def ReplayRunsWrongFalsely : Prop := replayRunsRow.holds Tryz.pinned (OpenSpec.ofChange replayRunsWrong)

/-- 'antecedelaw45.ReplayLattice': WHATEVER THE INPUT: true; the input reads as it did. -/
def replayLatticeSpec : ChangeSpec := { name := "replayLattice", fn := fun _ => fun
  | [d1, d2] => { results := [.lit (.bool true)], args := [d1, d2] }
  | _ => none }
def replayLatticeRow : OpenClaim := { program := "ytnknkkmdbnaglaagreat", sum := "76b0384fc514fc826a45ed6d7ce0c0904ddb6d5b0908a36c5e3f4186ca672ba2", func := "antecede/antecedelaw45.ReplayLattice", spec := "replayLattice", unfollowed := true, recurses := true, plainKeys := false, apart := false }
def ReplayLatticeSaid : Prop := replayLatticeRow.holds Tryz.pinned (OpenSpec.ofChange replayLatticeSpec)

/-- ITS FALSE NEIGHBOUR: 'it returns false'. Refute it at one input. -/
def replayLatticeWrong : ChangeSpec := { name := "replayLattice", fn := fun _ => fun
  | [d1, d2] => { results := [.lit (.bool false)], args := [d1, d2] }
  | _ => none }
def ReplayLatticeWrongFalsely : Prop := replayLatticeRow.holds Tryz.pinned (OpenSpec.ofChange replayLatticeWrong)

/-- 'antecedelaw39.SumsPossibly': WHATEVER THE INPUT: true; the input reads as it did. -/
def sumsPossiblySpec : ChangeSpec := { name := "sumsPossibly", fn := fun _ => fun
  | [d1, d2, d3, d4] => { results := [.lit (.bool true)], args := [d1, d2, d3, d4] }
  | _ => none }
def sumsPossiblyRow : OpenClaim := { program := "ytnknkkmdbnaglaagreat", sum := "76b0384fc514fc826a45ed6d7ce0c0904ddb6d5b0908a36c5e3f4186ca672ba2", func := "antecede/antecedelaw39.SumsPossibly", spec := "sumsPossibly", unfollowed := true, recurses := true, plainKeys := false, apart := false }
def SumsPossiblySaid : Prop := sumsPossiblyRow.holds Tryz.pinned (OpenSpec.ofChange sumsPossiblySpec)

/-- ITS FALSE NEIGHBOUR: 'it returns false'. Refute it at one input. -/
def sumsPossiblyWrong : ChangeSpec := { name := "sumsPossibly", fn := fun _ => fun
  | [d1, d2, d3, d4] => { results := [.lit (.bool false)], args := [d1, d2, d3, d4] }
  | _ => none }
def SumsPossiblyWrongFalsely : Prop := sumsPossiblyRow.holds Tryz.pinned (OpenSpec.ofChange sumsPossiblyWrong)

/-- 'antecedelaw39.SumsSteps': WHATEVER THE INPUT: true; the input reads as it did. -/
def sumsStepsSpec : ChangeSpec := { name := "sumsSteps", fn := fun _ => fun
  | [d1, d2, d3] => { results := [.lit (.bool true)], args := [d1, d2, d3] }
  | _ => none }
def sumsStepsRow : OpenClaim := { program := "ytnknkkmdbnaglaagreat", sum := "76b0384fc514fc826a45ed6d7ce0c0904ddb6d5b0908a36c5e3f4186ca672ba2", func := "antecede/antecedelaw39.SumsSteps", spec := "sumsSteps", unfollowed := true, recurses := true, plainKeys := false, apart := false }
def SumsStepsSaid : Prop := sumsStepsRow.holds Tryz.pinned (OpenSpec.ofChange sumsStepsSpec)

/-- ITS FALSE NEIGHBOUR: 'it returns false'. Refute it at one input. -/
def sumsStepsWrong : ChangeSpec := { name := "sumsSteps", fn := fun _ => fun
  | [d1, d2, d3] => { results := [.lit (.bool false)], args := [d1, d2, d3] }
  | _ => none }
def SumsStepsWrongFalsely : Prop := sumsStepsRow.holds Tryz.pinned (OpenSpec.ofChange sumsStepsWrong)

/- THE SECOND FORM. 'bulk': how many values and letters a reading holds, each counted each time it is reached (what is shared counts as often as it is met; a slice's spare places count too). A statement '..UptoSaid' is the law's where the arguments, and the package variables that the reading takes, are together of bulk at most 1048576: NARROWER than '..Said'. Prove '..Said' where nothing that the law and all that it calls make is longer than what came in: it says more and counts as full. Else prove '..UptoSaid'. A law counts once. -/
mutual
def uptoBulk {H : Type} : DataW H → Nat
  | .lit (.string bytes) => bytes.length + 1
  | .lit _ => 1
  | .nil => 1
  | .ptr d => uptoBulk d + 1
  | .slice elems spare => uptoBulkAll elems + uptoBulkAll spare + 1
  | .agg parts => uptoBulkAll parts + 1
  | .iface _ d => uptoBulk d + 1
  | .map entries => uptoBulkEntries entries + 1
  | .held _ => 1
def uptoBulkAll {H : Type} : List (DataW H) → Nat
  | [] => 0
  | d :: r => uptoBulk d + uptoBulkAll r
def uptoBulkEntries {H : Type} : List (Lit × DataW H) → Nat
  | [] => 0
  | x :: r => uptoBulkEntry x + uptoBulkEntries r
def uptoBulkEntry {H : Type} : Lit × DataW H → Nat
  | (.string bytes, d) => bytes.length + uptoBulk d + 1
  | (_, d) => uptoBulk d + 1
 end
def uptoSmall : (H : Type) → List (DataW H) → Bool := fun _ ds => decide (uptoBulkAll ds ≤ 1048576)
def OpenSpec.upto (s : _root_.Go.ChangeSpec) : _root_.Go.OpenSpec := { _root_.Go.OpenSpec.ofChange s with cond := some uptoSmall }

/-- 'antecedelaw39.SumsEnds', WHERE WHAT IT READS IS OF BULK AT MOST 1048576: true; the input reads as it did. -/
def sumsEndsUptoRow : OpenClaim := { program := "ytnknkkmdbnaglaagreat", sum := "76b0384fc514fc826a45ed6d7ce0c0904ddb6d5b0908a36c5e3f4186ca672ba2", func := "antecede/antecedelaw39.SumsEnds", spec := "sumsEnds", unfollowed := true, recurses := true, plainKeys := false, apart := false, narrowed := true }
def SumsEndsUptoSaid : Prop := sumsEndsUptoRow.holds Tryz.pinned (OpenSpec.upto sumsEndsSpec)

/-- 'antecedelaw39.SumsValues', WHERE WHAT IT READS IS OF BULK AT MOST 1048576: true; the input reads as it did. -/
def sumsValuesUptoRow : OpenClaim := { program := "ytnknkkmdbnaglaagreat", sum := "76b0384fc514fc826a45ed6d7ce0c0904ddb6d5b0908a36c5e3f4186ca672ba2", func := "antecede/antecedelaw39.SumsValues", spec := "sumsValues", unfollowed := true, recurses := true, plainKeys := false, apart := false, narrowed := true }
def SumsValuesUptoSaid : Prop := sumsValuesUptoRow.holds Tryz.pinned (OpenSpec.upto sumsValuesSpec)

/-- 'antecedelaw39.SumsFlow', WHERE WHAT IT READS IS OF BULK AT MOST 1048576: true; the input reads as it did. -/
def sumsFlowUptoRow : OpenClaim := { program := "ytnknkkmdbnaglaagreat", sum := "76b0384fc514fc826a45ed6d7ce0c0904ddb6d5b0908a36c5e3f4186ca672ba2", func := "antecede/antecedelaw39.SumsFlow", spec := "sumsFlow", unfollowed := true, recurses := true, plainKeys := false, apart := false, narrowed := true }
def SumsFlowUptoSaid : Prop := sumsFlowUptoRow.holds Tryz.pinned (OpenSpec.upto sumsFlowSpec)

/-- 'antecedelaw39.SumsOpposite', WHERE WHAT IT READS IS OF BULK AT MOST 1048576: true; the input reads as it did. -/
def sumsOppositeUptoRow : OpenClaim := { program := "ytnknkkmdbnaglaagreat", sum := "76b0384fc514fc826a45ed6d7ce0c0904ddb6d5b0908a36c5e3f4186ca672ba2", func := "antecede/antecedelaw39.SumsOpposite", spec := "sumsOpposite", unfollowed := true, recurses := true, plainKeys := false, apart := false, narrowed := true }
def SumsOppositeUptoSaid : Prop := sumsOppositeUptoRow.holds Tryz.pinned (OpenSpec.upto sumsOppositeSpec)

/-- 'antecedelaw45.ReplayApplies', WHERE WHAT IT READS IS OF BULK AT MOST 1048576: true; the input reads as it did. -/
def replayAppliesUptoRow : OpenClaim := { program := "ytnknkkmdbnaglaagreat", sum := "76b0384fc514fc826a45ed6d7ce0c0904ddb6d5b0908a36c5e3f4186ca672ba2", func := "antecede/antecedelaw45.ReplayApplies", spec := "replayApplies", unfollowed := true, recurses := true, plainKeys := false, apart := false, narrowed := true }
def ReplayAppliesUptoSaid : Prop := replayAppliesUptoRow.holds Tryz.pinned (OpenSpec.upto replayAppliesSpec)

/-- 'antecedelaw45.ReplayPermits', WHERE WHAT IT READS IS OF BULK AT MOST 1048576: true; the input reads as it did. -/
def replayPermitsUptoRow : OpenClaim := { program := "ytnknkkmdbnaglaagreat", sum := "76b0384fc514fc826a45ed6d7ce0c0904ddb6d5b0908a36c5e3f4186ca672ba2", func := "antecede/antecedelaw45.ReplayPermits", spec := "replayPermits", unfollowed := true, recurses := true, plainKeys := false, apart := false, narrowed := true }
def ReplayPermitsUptoSaid : Prop := replayPermitsUptoRow.holds Tryz.pinned (OpenSpec.upto replayPermitsSpec)

/-- 'antecedelaw45.ReplayLists', WHERE WHAT IT READS IS OF BULK AT MOST 1048576: true; the input reads as it did. -/
def replayListsUptoRow : OpenClaim := { program := "ytnknkkmdbnaglaagreat", sum := "76b0384fc514fc826a45ed6d7ce0c0904ddb6d5b0908a36c5e3f4186ca672ba2", func := "antecede/antecedelaw45.ReplayLists", spec := "replayLists", unfollowed := true, recurses := true, plainKeys := false, apart := false, narrowed := true }
def ReplayListsUptoSaid : Prop := replayListsUptoRow.holds Tryz.pinned (OpenSpec.upto replayListsSpec)

/-- 'antecedelaw45.ReplayControls', WHERE WHAT IT READS IS OF BULK AT MOST 1048576: true; the input reads as it did. -/
def replayControlsUptoRow : OpenClaim := { program := "ytnknkkmdbnaglaagreat", sum := "76b0384fc514fc826a45ed6d7ce0c0904ddb6d5b0908a36c5e3f4186ca672ba2", func := "antecede/antecedelaw45.ReplayControls", spec := "replayControls", unfollowed := true, recurses := true, plainKeys := false, apart := false, narrowed := true }
def ReplayControlsUptoSaid : Prop := replayControlsUptoRow.holds Tryz.pinned (OpenSpec.upto replayControlsSpec)

/-- 'antecedelaw45.ReplayRuns', WHERE WHAT IT READS IS OF BULK AT MOST 1048576: true; the input reads as it did. -/
def replayRunsUptoRow : OpenClaim := { program := "ytnknkkmdbnaglaagreat", sum := "76b0384fc514fc826a45ed6d7ce0c0904ddb6d5b0908a36c5e3f4186ca672ba2", func := "antecede/antecedelaw45.ReplayRuns", spec := "replayRuns", unfollowed := true, recurses := true, plainKeys := false, apart := false, narrowed := true }
def ReplayRunsUptoSaid : Prop := replayRunsUptoRow.holds Tryz.pinned (OpenSpec.upto replayRunsSpec)

/-- 'antecedelaw45.ReplayLattice', WHERE WHAT IT READS IS OF BULK AT MOST 1048576: true; the input reads as it did. -/
def replayLatticeUptoRow : OpenClaim := { program := "ytnknkkmdbnaglaagreat", sum := "76b0384fc514fc826a45ed6d7ce0c0904ddb6d5b0908a36c5e3f4186ca672ba2", func := "antecede/antecedelaw45.ReplayLattice", spec := "replayLattice", unfollowed := true, recurses := true, plainKeys := false, apart := false, narrowed := true }
def ReplayLatticeUptoSaid : Prop := replayLatticeUptoRow.holds Tryz.pinned (OpenSpec.upto replayLatticeSpec)

/-- 'antecedelaw39.SumsPossibly', WHERE WHAT IT READS IS OF BULK AT MOST 1048576: true; the input reads as it did. -/
def sumsPossiblyUptoRow : OpenClaim := { program := "ytnknkkmdbnaglaagreat", sum := "76b0384fc514fc826a45ed6d7ce0c0904ddb6d5b0908a36c5e3f4186ca672ba2", func := "antecede/antecedelaw39.SumsPossibly", spec := "sumsPossibly", unfollowed := true, recurses := true, plainKeys := false, apart := false, narrowed := true }
def SumsPossiblyUptoSaid : Prop := sumsPossiblyUptoRow.holds Tryz.pinned (OpenSpec.upto sumsPossiblySpec)

/-- 'antecedelaw39.SumsSteps', WHERE WHAT IT READS IS OF BULK AT MOST 1048576: true; the input reads as it did. -/
def sumsStepsUptoRow : OpenClaim := { program := "ytnknkkmdbnaglaagreat", sum := "76b0384fc514fc826a45ed6d7ce0c0904ddb6d5b0908a36c5e3f4186ca672ba2", func := "antecede/antecedelaw39.SumsSteps", spec := "sumsSteps", unfollowed := true, recurses := true, plainKeys := false, apart := false, narrowed := true }
def SumsStepsUptoSaid : Prop := sumsStepsUptoRow.holds Tryz.pinned (OpenSpec.upto sumsStepsSpec)

end Rows
end Go.Proofs.YtnknkkmdbnaglaaGreat
