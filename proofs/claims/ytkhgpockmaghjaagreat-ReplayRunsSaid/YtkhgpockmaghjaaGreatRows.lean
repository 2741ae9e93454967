/-
  No cell of these rows narrows 'for every input' (looked for: loops, veiled, ifaces, maps, wideKeys, modest, calm, conditions, laid).
  DERIVED. THE GIVEN ROWS OF THIS SEAT. 6 by the template 'for every input the law returns true; each argument reads behind the call as it read before'; 0 by the template 'total and deterministic' (their statements: YtkhgpockmaghjaaGreatTotals.lean).
  GIVEN WITH THE SEED: the statements are not yours to turn. If you find one false, say at which input.
  Laid BY PROGRAM, IN A SANDBOX (cutbox-rows.mjs): the forced cells as the released guide's own fill.sh prints them over the translation 5a6d9c25fc9844c9… (all of the seat's roots in one cut). By AI agents, Wed Nov 11 2026. No macro, syntax, notation, axiom, sorry.
-/
import Derived.Test.YtkhgpockmaghjaaGreatChecked
import GoSem.Claim
import GoSem.ClaimJoined
import GoSem.ClaimMapViews
import Derived.JoinedTies
import Derived.KernelRfl
namespace Go.Proofs.YtkhgpockmaghjaaGreat
/- THE CELL 'sum', in the pinned program and in every row, IS THE sha256 OF THE DUMP (.gsa) THAT YtkhgpockmaghjaaGreatProg.lean LOADS. Nothing in Lean hashes anything: it is a label: what it is worth is what the hold of that sum in a sandbox is worth. -/
noncomputable def Tryz.pinned : Pinned := { name := "ytkhgpockmaghjaagreat", sum := "5a6d9c25fc9844c9c72e0f07ce91dd6d1a9efa1df566a35b8d67b49d44a98280", checked := Tryz.checked }
namespace Rows
def none {H : Type} : Left H := { results := [], args := [] }

/-- 'antecedelaw45.ReplayApplies': WHATEVER THE INPUT: true; the input reads as it did. -/
def replayAppliesSpec : ChangeSpec := { name := "replayApplies", fn := fun _ => fun
  | [d1, d2] => { results := [.lit (.bool true)], args := [d1, d2] }
  | _ => none }
def replayAppliesRow : OpenClaim := { program := "ytkhgpockmaghjaagreat", sum := "5a6d9c25fc9844c9c72e0f07ce91dd6d1a9efa1df566a35b8d67b49d44a98280", func := "antecede/antecedelaw45.ReplayApplies", spec := "replayApplies", unfollowed := true, recurses := true, plainKeys := false, apart := false }
def ReplayAppliesSaid : Prop := replayAppliesRow.holds Tryz.pinned (OpenSpec.ofChange replayAppliesSpec)

/-- ITS FALSE NEIGHBOUR: 'it returns false'. Refute it at one input. -/
def replayAppliesWrong : ChangeSpec := { name := "replayApplies", fn := fun _ => fun
  | [d1, d2] => { results := [.lit (.bool false)], args := [d1, d2] }
  | _ => none }
def ReplayAppliesWrongFalsely : Prop := replayAppliesRow.holds Tryz.pinned (OpenSpec.ofChange replayAppliesWrong)

/-- 'antecedelaw45.ReplayPermits': WHATEVER THE INPUT: true; the input reads as it did. -/
def replayPermitsSpec : ChangeSpec := { name := "replayPermits", fn := fun _ => fun
  | [d1, d2, d3] => { results := [.lit (.bool true)], args := [d1, d2, d3] }
  | _ => none }
def replayPermitsRow : OpenClaim := { program := "ytkhgpockmaghjaagreat", sum := "5a6d9c25fc9844c9c72e0f07ce91dd6d1a9efa1df566a35b8d67b49d44a98280", func := "antecede/antecedelaw45.ReplayPermits", spec := "replayPermits", unfollowed := true, recurses := true, plainKeys := false, apart := false }
def ReplayPermitsSaid : Prop := replayPermitsRow.holds Tryz.pinned (OpenSpec.ofChange replayPermitsSpec)

/-- ITS FALSE NEIGHBOUR: 'it returns false'. Refute it at one input. -/
def replayPermitsWrong : ChangeSpec := { name := "replayPermits", fn := fun _ => fun
  | [d1, d2, d3] => { results := [.lit (.bool false)], args := [d1, d2, d3] }
  | _ => none }
def ReplayPermitsWrongFalsely : Prop := replayPermitsRow.holds Tryz.pinned (OpenSpec.ofChange replayPermitsWrong)

/-- 'antecedelaw45.ReplayLists': WHATEVER THE INPUT: true; the input reads as it did. -/
def replayListsSpec : ChangeSpec := { name := "replayLists", fn := fun _ => fun
  | [d1, d2, d3] => { results := [.lit (.bool true)], args := [d1, d2, d3] }
  | _ => none }
def replayListsRow : OpenClaim := { program := "ytkhgpockmaghjaagreat", sum := "5a6d9c25fc9844c9c72e0f07ce91dd6d1a9efa1df566a35b8d67b49d44a98280", func := "antecede/antecedelaw45.ReplayLists", spec := "replayLists", unfollowed := true, recurses := true, plainKeys := false, apart := false }
def ReplayListsSaid : Prop := replayListsRow.holds Tryz.pinned (OpenSpec.ofChange replayListsSpec)

/-- ITS FALSE NEIGHBOUR: 'it returns false'. Refute it at one input. -/
def replayListsWrong : ChangeSpec := { name := "replayLists", fn := fun _ => fun
  | [d1, d2, d3] => { results := [.lit (.bool false)], args := [d1, d2, d3] }
  | _ => none }
def ReplayListsWrongFalsely : Prop := replayListsRow.holds Tryz.pinned (OpenSpec.ofChange replayListsWrong)

/-- 'antecedelaw45.ReplayControls': WHATEVER THE INPUT: true; the input reads as it did. -/
def replayControlsSpec : ChangeSpec := { name := "replayControls", fn := fun _ => fun
  | [d1, d2] => { results := [.lit (.bool true)], args := [d1, d2] }
  | _ => none }
def replayControlsRow : OpenClaim := { program := "ytkhgpockmaghjaagreat", sum := "5a6d9c25fc9844c9c72e0f07ce91dd6d1a9efa1df566a35b8d67b49d44a98280", func := "antecede/antecedelaw45.ReplayControls", spec := "replayControls", unfollowed := true, recurses := true, plainKeys := false, apart := false }
def ReplayControlsSaid : Prop := replayControlsRow.holds Tryz.pinned (OpenSpec.ofChange replayControlsSpec)

/-- ITS FALSE NEIGHBOUR: 'it returns false'. Refute it at one input. -/
def replayControlsWrong : ChangeSpec := { name := "replayControls", fn := fun _ => fun
  | [d1, d2] => { results := [.lit (.bool false)], args := [d1, d2] }
  | _ => none }
def ReplayControlsWrongFalsely : Prop := replayControlsRow.holds Tryz.pinned (OpenSpec.ofChange replayControlsWrong)

/-- 'antecedelaw45.ReplayRuns': WHATEVER THE INPUT: true; the input reads as it did. -/
def replayRunsSpec : ChangeSpec := { name := "replayRuns", fn := fun _ => fun
  | [d1, d2, d3, d4] => { results := [.lit (.bool true)], args := [d1, d2, d3, d4] }
  | _ => none }
def replayRunsRow : OpenClaim := { program := "ytkhgpockmaghjaagreat", sum := "5a6d9c25fc9844c9c72e0f07ce91dd6d1a9efa1df566a35b8d67b49d44a98280", func := "antecede/antecedelaw45.ReplayRuns", spec := "replayRuns", unfollowed := true, recurses := true, plainKeys := false, apart := false }
def ReplayRunsSaid : Prop := replayRunsRow.holds Tryz.pinned (OpenSpec.ofChange replayRunsSpec)

/-- ITS FALSE NEIGHBOUR: 'it returns false'. Refute it at one input. -/
def replayRunsWrong : ChangeSpec := { name := "replayRuns", fn := fun _ => fun
  | [d1, d2, d3, d4] => { results := [.lit (.bool false)], args := [d1, d2, d3, d4] }
  | _ => none }
def ReplayRunsWrongFalsely : Prop := replayRunsRow.holds Tryz.pinned (OpenSpec.ofChange replayRunsWrong)

/-- 'antecedelaw45.ReplayLattice': WHATEVER THE INPUT: true; the input reads as it did. -/
def replayLatticeSpec : ChangeSpec := { name := "replayLattice", fn := fun _ => fun
  | [d1, d2] => { results := [.lit (.bool true)], args := [d1, d2] }
  | _ => none }
def replayLatticeRow : OpenClaim := { program := "ytkhgpockmaghjaagreat", sum := "5a6d9c25fc9844c9c72e0f07ce91dd6d1a9efa1df566a35b8d67b49d44a98280", func := "antecede/antecedelaw45.ReplayLattice", spec := "replayLattice", unfollowed := true, recurses := true, plainKeys := false, apart := false }
def ReplayLatticeSaid : Prop := replayLatticeRow.holds Tryz.pinned (OpenSpec.ofChange replayLatticeSpec)

/-- ITS FALSE NEIGHBOUR: 'it returns false'. Refute it at one input. -/
def replayLatticeWrong : ChangeSpec := { name := "replayLattice", fn := fun _ => fun
  | [d1, d2] => { results := [.lit (.bool false)], args := [d1, d2] }
  | _ => none }
def ReplayLatticeWrongFalsely : Prop := replayLatticeRow.holds Tryz.pinned (OpenSpec.ofChange replayLatticeWrong)

/- THE SECOND FORM. 'bulk': how many values and letters a reading holds, each counted each time it is reached (what is shared counts as often as it is met; a slice's spare places count too). A statement '..UptoSaid' is the law's where the arguments, and the package variables that the reading takes, are together of bulk at most 1048576: NARROWER than '..Said'. Prove '..Said' where nothing that the law and all that it calls make is longer than what came in: it says more and counts as full. Else prove '..UptoSaid'. A law counts once. -/
mutual
def uptoBulk {H : Type} : DataW H → Nat
  | .lit (.string bytes) => bytes.length + 1
  | .lit _ => 1
  | .nil => 1
  | .ptr d => uptoBulk d + 1
  | .slice elems spare => uptoBulkAll elems + uptoBulkAll spare + 1
  | .agg parts => uptoBulkAll parts + 1
  | .iface _ d => uptoBulk d + 1
  | .map entries => uptoBulkEntries entries + 1
  | .held _ => 1
def uptoBulkAll {H : Type} : List (DataW H) → Nat
  | [] => 0
  | d :: r => uptoBulk d + uptoBulkAll r
def uptoBulkEntries {H : Type} : List (Lit × DataW H) → Nat
  | [] => 0
  | x :: r => uptoBulkEntry x + uptoBulkEntries r
def uptoBulkEntry {H : Type} : Lit × DataW H → Nat
  | (.string bytes, d) => bytes.length + uptoBulk d + 1
  | (_, d) => uptoBulk d + 1
 end
def uptoSmall : (H : Type) → List (DataW H) → Bool := fun _ ds => decide (uptoBulkAll ds ≤ 1048576)
def OpenSpec.upto (s : _root_.Go.ChangeSpec) : _root_.Go.OpenSpec := { _root_.Go.OpenSpec.ofChange s with cond := some uptoSmall }

/-- 'antecedelaw45.ReplayApplies', WHERE WHAT IT READS IS OF BULK AT MOST 1048576: true; the input reads as it did. -/
def replayAppliesUptoRow : OpenClaim := { program := "ytkhgpockmaghjaagreat", sum := "5a6d9c25fc9844c9c72e0f07ce91dd6d1a9efa1df566a35b8d67b49d44a98280", func := "antecede/antecedelaw45.ReplayApplies", spec := "replayApplies", unfollowed := true, recurses := true, plainKeys := false, apart := false, narrowed := true }
def ReplayAppliesUptoSaid : Prop := replayAppliesUptoRow.holds Tryz.pinned (OpenSpec.upto replayAppliesSpec)

/-- 'antecedelaw45.ReplayPermits', WHERE WHAT IT READS IS OF BULK AT MOST 1048576: true; the input reads as it did. -/
def replayPermitsUptoRow : OpenClaim := { program := "ytkhgpockmaghjaagreat", sum := "5a6d9c25fc9844c9c72e0f07ce91dd6d1a9efa1df566a35b8d67b49d44a98280", func := "antecede/antecedelaw45.ReplayPermits", spec := "replayPermits", unfollowed := true, recurses := true, plainKeys := false, apart := false, narrowed := true }
def ReplayPermitsUptoSaid : Prop := replayPermitsUptoRow.holds Tryz.pinned (OpenSpec.upto replayPermitsSpec)

/-- 'antecedelaw45.ReplayLists', WHERE WHAT IT READS IS OF BULK AT MOST 1048576: true; the input reads as it did. -/
def replayListsUptoRow : OpenClaim := { program := "ytkhgpockmaghjaagreat", sum := "5a6d9c25fc9844c9c72e0f07ce91dd6d1a9efa1df566a35b8d67b49d44a98280", func := "antecede/antecedelaw45.ReplayLists", spec := "replayLists", unfollowed := true, recurses := true, plainKeys := false, apart := false, narrowed := true }
def ReplayListsUptoSaid : Prop := replayListsUptoRow.holds Tryz.pinned (OpenSpec.upto replayListsSpec)

/-- 'antecedelaw45.ReplayControls', WHERE WHAT IT READS IS OF BULK AT MOST 1048576: true; the input reads as it did. -/
def replayControlsUptoRow : OpenClaim := { program := "ytkhgpockmaghjaagreat", sum := "5a6d9c25fc9844c9c72e0f07ce91dd6d1a9efa1df566a35b8d67b49d44a98280", func := "antecede/antecedelaw45.ReplayControls", spec := "replayControls", unfollowed := true, recurses := true, plainKeys := false, apart := false, narrowed := true }
def ReplayControlsUptoSaid : Prop := replayControlsUptoRow.holds Tryz.pinned (OpenSpec.upto replayControlsSpec)

/-- 'antecedelaw45.ReplayRuns', WHERE WHAT IT READS IS OF BULK AT MOST 1048576: true; the input reads as it did. -/
def replayRunsUptoRow : OpenClaim := { program := "ytkhgpockmaghjaagreat", sum := "5a6d9c25fc9844c9c72e0f07ce91dd6d1a9efa1df566a35b8d67b49d44a98280", func := "antecede/antecedelaw45.ReplayRuns", spec := "replayRuns", unfollowed := true, recurses := true, plainKeys := false, apart := false, narrowed := true }
def ReplayRunsUptoSaid : Prop := replayRunsUptoRow.holds Tryz.pinned (OpenSpec.upto replayRunsSpec)

/-- 'antecedelaw45.ReplayLattice', WHERE WHAT IT READS IS OF BULK AT MOST 1048576: true; the input reads as it did. -/
def replayLatticeUptoRow : OpenClaim := { program := "ytkhgpockmaghjaagreat", sum := "5a6d9c25fc9844c9c72e0f07ce91dd6d1a9efa1df566a35b8d67b49d44a98280", func := "antecede/antecedelaw45.ReplayLattice", spec := "replayLattice", unfollowed := true, recurses := true, plainKeys := false, apart := false, narrowed := true }
def ReplayLatticeUptoSaid : Prop := replayLatticeUptoRow.holds Tryz.pinned (OpenSpec.upto replayLatticeSpec)

end Rows
end Go.Proofs.YtkhgpockmaghjaaGreat
