/-
  No cell of these rows narrows 'for every input' (looked for: loops, veiled, ifaces, maps, wideKeys, modest, calm, conditions, laid).
  DERIVED. THE GIVEN ROWS OF THIS SEAT. 6 by the template 'for every input the law returns true; each argument reads behind the call as it read before'; 0 by the template 'total and deterministic' (their statements: YtecgigeeolindaaTotals.lean).
  GIVEN WITH THE SEED: the statements are not yours to turn. If you find one false, say at which input.
  Laid BY PROGRAM, IN A SANDBOX (cutbox-rows.mjs): the forced cells as the released guide's own fill.sh prints them over the translation 15e0eb31f82de6b1… (all of the seat's roots in one cut). By AI agents, Wed Nov 11 2026. No macro, syntax, notation, axiom, sorry.
-/
import Derived.Test.YtecgigeeolindaaChecked
import GoSem.Claim
import GoSem.ClaimJoined
import GoSem.ClaimMapViews
import Derived.JoinedTies
import Derived.KernelRfl
namespace Go.Proofs.Ytecgigeeolindaa
/- THE CELL 'sum', in the pinned program and in every row, IS THE sha256 OF THE DUMP (.gsa) THAT YtecgigeeolindaaProg.lean LOADS. Nothing in Lean hashes anything: it is a label: what it is worth is what the hold of that sum in a sandbox is worth. -/
noncomputable def Try.pinned : Pinned := { name := "ytecgigeeolindaa", sum := "15e0eb31f82de6b1340aeaf051f9ccdde5a077c37d739f2833ceadb4de9f3976", checked := Try.checked }
namespace Rows
def none {H : Type} : Left H := { results := [], args := [] }

/-- 'antecedelaw14.LamportSteps': WHATEVER THE INPUT: true; the input reads as it did. -/
def lamportStepsSpec : ChangeSpec := { name := "lamportSteps", fn := fun _ => fun
  | [d1, d2] => { results := [.lit (.bool true)], args := [d1, d2] }
  | _ => none }
def lamportStepsRow : OpenClaim := { program := "ytecgigeeolindaa", sum := "15e0eb31f82de6b1340aeaf051f9ccdde5a077c37d739f2833ceadb4de9f3976", func := "antecede/antecedelaw14.LamportSteps", spec := "lamportSteps", unfollowed := true, recurses := true, plainKeys := false, apart := false }
def LamportStepsSaid : Prop := lamportStepsRow.holds Try.pinned (OpenSpec.ofChange lamportStepsSpec)

/-- ITS FALSE NEIGHBOUR: 'it returns false'. Refute it at one input. -/
def lamportStepsWrong : ChangeSpec := { name := "lamportSteps", fn := fun _ => fun
  | [d1, d2] => { results := [.lit (.bool false)], args := [d1, d2] }
  | _ => none }
def LamportStepsWrongFalsely : Prop := lamportStepsRow.holds Try.pinned (OpenSpec.ofChange lamportStepsWrong)

/-- 'antecedelaw14.LamportChains': WHATEVER THE INPUT: true; the input reads as it did. -/
def lamportChainsSpec : ChangeSpec := { name := "lamportChains", fn := fun _ => fun
  | [d1, d2] => { results := [.lit (.bool true)], args := [d1, d2] }
  | _ => none }
def lamportChainsRow : OpenClaim := { program := "ytecgigeeolindaa", sum := "15e0eb31f82de6b1340aeaf051f9ccdde5a077c37d739f2833ceadb4de9f3976", func := "antecede/antecedelaw14.LamportChains", spec := "lamportChains", unfollowed := true, recurses := true, plainKeys := false, apart := false }
def LamportChainsSaid : Prop := lamportChainsRow.holds Try.pinned (OpenSpec.ofChange lamportChainsSpec)

/-- ITS FALSE NEIGHBOUR: 'it returns false'. Refute it at one input. -/
def lamportChainsWrong : ChangeSpec := { name := "lamportChains", fn := fun _ => fun
  | [d1, d2] => { results := [.lit (.bool false)], args := [d1, d2] }
  | _ => none }
def LamportChainsWrongFalsely : Prop := lamportChainsRow.holds Try.pinned (OpenSpec.ofChange lamportChainsWrong)

/-- 'antecedelaw14.LamportStamps': WHATEVER THE INPUT: true; the input reads as it did. -/
def lamportStampsSpec : ChangeSpec := { name := "lamportStamps", fn := fun _ => fun
  | [d] => { results := [.lit (.bool true)], args := [d] }
  | _ => none }
def lamportStampsRow : OpenClaim := { program := "ytecgigeeolindaa", sum := "15e0eb31f82de6b1340aeaf051f9ccdde5a077c37d739f2833ceadb4de9f3976", func := "antecede/antecedelaw14.LamportStamps", spec := "lamportStamps", unfollowed := true, recurses := true, plainKeys := false, apart := false }
def LamportStampsSaid : Prop := lamportStampsRow.holds Try.pinned (OpenSpec.ofChange lamportStampsSpec)

/-- ITS FALSE NEIGHBOUR: 'it returns false'. Refute it at one input. -/
def lamportStampsWrong : ChangeSpec := { name := "lamportStamps", fn := fun _ => fun
  | [d] => { results := [.lit (.bool false)], args := [d] }
  | _ => none }
def LamportStampsWrongFalsely : Prop := lamportStampsRow.holds Try.pinned (OpenSpec.ofChange lamportStampsWrong)

/-- 'antecedelaw14.LamportChecks': WHATEVER THE INPUT: true; the input reads as it did. -/
def lamportChecksSpec : ChangeSpec := { name := "lamportChecks", fn := fun _ => fun
  | [d1, d2] => { results := [.lit (.bool true)], args := [d1, d2] }
  | _ => none }
def lamportChecksRow : OpenClaim := { program := "ytecgigeeolindaa", sum := "15e0eb31f82de6b1340aeaf051f9ccdde5a077c37d739f2833ceadb4de9f3976", func := "antecede/antecedelaw14.LamportChecks", spec := "lamportChecks", unfollowed := true, recurses := true, plainKeys := false, apart := false }
def LamportChecksSaid : Prop := lamportChecksRow.holds Try.pinned (OpenSpec.ofChange lamportChecksSpec)

/-- ITS FALSE NEIGHBOUR: 'it returns false'. Refute it at one input. -/
def lamportChecksWrong : ChangeSpec := { name := "lamportChecks", fn := fun _ => fun
  | [d1, d2] => { results := [.lit (.bool false)], args := [d1, d2] }
  | _ => none }
def LamportChecksWrongFalsely : Prop := lamportChecksRow.holds Try.pinned (OpenSpec.ofChange lamportChecksWrong)

/-- 'antecedelaw14.LamportOrder': WHATEVER THE INPUT: true; the input reads as it did. -/
def lamportOrderSpec : ChangeSpec := { name := "lamportOrder", fn := fun _ => fun
  | [d1, d2] => { results := [.lit (.bool true)], args := [d1, d2] }
  | _ => none }
def lamportOrderRow : OpenClaim := { program := "ytecgigeeolindaa", sum := "15e0eb31f82de6b1340aeaf051f9ccdde5a077c37d739f2833ceadb4de9f3976", func := "antecede/antecedelaw14.LamportOrder", spec := "lamportOrder", unfollowed := true, recurses := true, plainKeys := false, apart := false }
def LamportOrderSaid : Prop := lamportOrderRow.holds Try.pinned (OpenSpec.ofChange lamportOrderSpec)

/-- ITS FALSE NEIGHBOUR: 'it returns false'. Refute it at one input. -/
def lamportOrderWrong : ChangeSpec := { name := "lamportOrder", fn := fun _ => fun
  | [d1, d2] => { results := [.lit (.bool false)], args := [d1, d2] }
  | _ => none }
def LamportOrderWrongFalsely : Prop := lamportOrderRow.holds Try.pinned (OpenSpec.ofChange lamportOrderWrong)

/-- 'antecedelaw14.LamportLeast': WHATEVER THE INPUT: true; the input reads as it did. -/
def lamportLeastSpec : ChangeSpec := { name := "lamportLeast", fn := fun _ => fun
  | [d1, d2, d3] => { results := [.lit (.bool true)], args := [d1, d2, d3] }
  | _ => none }
def lamportLeastRow : OpenClaim := { program := "ytecgigeeolindaa", sum := "15e0eb31f82de6b1340aeaf051f9ccdde5a077c37d739f2833ceadb4de9f3976", func := "antecede/antecedelaw14.LamportLeast", spec := "lamportLeast", unfollowed := true, recurses := true, plainKeys := false, apart := false }
def LamportLeastSaid : Prop := lamportLeastRow.holds Try.pinned (OpenSpec.ofChange lamportLeastSpec)

/-- ITS FALSE NEIGHBOUR: 'it returns false'. Refute it at one input. -/
def lamportLeastWrong : ChangeSpec := { name := "lamportLeast", fn := fun _ => fun
  | [d1, d2, d3] => { results := [.lit (.bool false)], args := [d1, d2, d3] }
  | _ => none }
def LamportLeastWrongFalsely : Prop := lamportLeastRow.holds Try.pinned (OpenSpec.ofChange lamportLeastWrong)

/- THE SECOND FORM. 'bulk': how many values and letters a reading holds, each counted each time it is reached (what is shared counts as often as it is met; a slice's spare places count too). A statement '..UptoSaid' is the law's where the arguments, and the package variables that the reading takes, are together of bulk at most 1048576: NARROWER than '..Said'. Prove '..Said' where nothing that the law and all that it calls make is longer than what came in: it says more and counts as full. Else prove '..UptoSaid'. A law counts once. -/
mutual
def uptoBulk {H : Type} : DataW H → Nat
  | .lit (.string bytes) => bytes.length + 1
  | .lit _ => 1
  | .nil => 1
  | .ptr d => uptoBulk d + 1
  | .slice elems spare => uptoBulkAll elems + uptoBulkAll spare + 1
  | .agg parts => uptoBulkAll parts + 1
  | .iface _ d => uptoBulk d + 1
  | .map entries => uptoBulkEntries entries + 1
  | .held _ => 1
def uptoBulkAll {H : Type} : List (DataW H) → Nat
  | [] => 0
  | d :: r => uptoBulk d + uptoBulkAll r
def uptoBulkEntries {H : Type} : List (Lit × DataW H) → Nat
  | [] => 0
  | x :: r => uptoBulkEntry x + uptoBulkEntries r
def uptoBulkEntry {H : Type} : Lit × DataW H → Nat
  | (.string bytes, d) => bytes.length + uptoBulk d + 1
  | (_, d) => uptoBulk d + 1
 end
def uptoSmall : (H : Type) → List (DataW H) → Bool := fun _ ds => decide (uptoBulkAll ds ≤ 1048576)
def OpenSpec.upto (s : _root_.Go.ChangeSpec) : _root_.Go.OpenSpec := { _root_.Go.OpenSpec.ofChange s with cond := some uptoSmall }

/-- 'antecedelaw14.LamportSteps', WHERE WHAT IT READS IS OF BULK AT MOST 1048576: true; the input reads as it did. -/
def lamportStepsUptoRow : OpenClaim := { program := "ytecgigeeolindaa", sum := "15e0eb31f82de6b1340aeaf051f9ccdde5a077c37d739f2833ceadb4de9f3976", func := "antecede/antecedelaw14.LamportSteps", spec := "lamportSteps", unfollowed := true, recurses := true, plainKeys := false, apart := false, narrowed := true }
def LamportStepsUptoSaid : Prop := lamportStepsUptoRow.holds Try.pinned (OpenSpec.upto lamportStepsSpec)

/-- 'antecedelaw14.LamportChains', WHERE WHAT IT READS IS OF BULK AT MOST 1048576: true; the input reads as it did. -/
def lamportChainsUptoRow : OpenClaim := { program := "ytecgigeeolindaa", sum := "15e0eb31f82de6b1340aeaf051f9ccdde5a077c37d739f2833ceadb4de9f3976", func := "antecede/antecedelaw14.LamportChains", spec := "lamportChains", unfollowed := true, recurses := true, plainKeys := false, apart := false, narrowed := true }
def LamportChainsUptoSaid : Prop := lamportChainsUptoRow.holds Try.pinned (OpenSpec.upto lamportChainsSpec)

/-- 'antecedelaw14.LamportStamps', WHERE WHAT IT READS IS OF BULK AT MOST 1048576: true; the input reads as it did. -/
def lamportStampsUptoRow : OpenClaim := { program := "ytecgigeeolindaa", sum := "15e0eb31f82de6b1340aeaf051f9ccdde5a077c37d739f2833ceadb4de9f3976", func := "antecede/antecedelaw14.LamportStamps", spec := "lamportStamps", unfollowed := true, recurses := true, plainKeys := false, apart := false, narrowed := true }
def LamportStampsUptoSaid : Prop := lamportStampsUptoRow.holds Try.pinned (OpenSpec.upto lamportStampsSpec)

/-- 'antecedelaw14.LamportChecks', WHERE WHAT IT READS IS OF BULK AT MOST 1048576: true; the input reads as it did. -/
def lamportChecksUptoRow : OpenClaim := { program := "ytecgigeeolindaa", sum := "15e0eb31f82de6b1340aeaf051f9ccdde5a077c37d739f2833ceadb4de9f3976", func := "antecede/antecedelaw14.LamportChecks", spec := "lamportChecks", unfollowed := true, recurses := true, plainKeys := false, apart := false, narrowed := true }
def LamportChecksUptoSaid : Prop := lamportChecksUptoRow.holds Try.pinned (OpenSpec.upto lamportChecksSpec)

/-- 'antecedelaw14.LamportOrder', WHERE WHAT IT READS IS OF BULK AT MOST 1048576: true; the input reads as it did. -/
def lamportOrderUptoRow : OpenClaim := { program := "ytecgigeeolindaa", sum := "15e0eb31f82de6b1340aeaf051f9ccdde5a077c37d739f2833ceadb4de9f3976", func := "antecede/antecedelaw14.LamportOrder", spec := "lamportOrder", unfollowed := true, recurses := true, plainKeys := false, apart := false, narrowed := true }
def LamportOrderUptoSaid : Prop := lamportOrderUptoRow.holds Try.pinned (OpenSpec.upto lamportOrderSpec)

/-- 'antecedelaw14.LamportLeast', WHERE WHAT IT READS IS OF BULK AT MOST 1048576: true; the input reads as it did. -/
def lamportLeastUptoRow : OpenClaim := { program := "ytecgigeeolindaa", sum := "15e0eb31f82de6b1340aeaf051f9ccdde5a077c37d739f2833ceadb4de9f3976", func := "antecede/antecedelaw14.LamportLeast", spec := "lamportLeast", unfollowed := true, recurses := true, plainKeys := false, apart := false, narrowed := true }
def LamportLeastUptoSaid : Prop := lamportLeastUptoRow.holds Try.pinned (OpenSpec.upto lamportLeastSpec)

end Rows
end Go.Proofs.Ytecgigeeolindaa
