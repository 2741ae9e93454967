/- Contracts: trace.sends, trace.formed. -/
import Derived.Test.YtecgigeeolindaaNames
import Derived.Test.YtecgigeeolindaaIdxE
import Derived.Test.YtecgigeeolindaaClos
namespace Go.Proofs.Ytecgigeeolindaa
open Go.RowKit Go.Shelf

/-- process p sends number m to process q -/
def Tr.sendsB (T : Tr) (p : Nat) (m q : Int) : Bool := anyB (fun i => decide (T.kind p i = 2) && decide (T.msg p i = m) && decide (T.peer p i = q)) (T.en p)

/-- slices.ContainsFunc over the events of process p -/
theorem hasEv (w : World) (T : TM) (hT : T.At w) (p : Nat) (hp : p < T.n) (g : Nat) (lb : Array Value) (q : Nat → Bool) (eg : Enters Try.prog g)
    (hq : ∀ i, i < T.en p → ∀ w', Ext w w' → Calls Try.prog g (#[T.ev p i] ++ lb) w' fun e w'' => e = .returned (.bool (q i)) ∧ Ext w' w'') :
    Calls Try.prog 32 #[.slice (T.ea p) (T.en p) (T.ec p), .func (.func g) #[] lb] w fun e w' => e = .returned (.bool (anyB q (T.en p))) ∧ Ext w w' :=
  has_Event w (T.ea p) (T.eb p) (T.eo p) (T.en p) (T.ec p) (fun i => .int .i64 (T.kind p i)) (fun i => .int .i64 (T.peer p i)) (fun i => .int .i64 (T.msg p i)) (fun i => .int .i64 (T.time p i)) (fun i => .slice (T.aa p i) (T.an p i) (T.ac p i))
    g lb q (hT.E.he p hp) (hT.E.ea p hp) (fun w' hx i hi => hT.E.e0 w' hx p i hp hi) (fun w' hx i hi => hT.E.e1 w' hx p i hp hi) (fun w' hx i hi => hT.E.e2 w' hx p i hp hi) (fun w' hx i hi => hT.E.e3 w' hx p i hp hi) (fun w' hx i hi => hT.E.e4 w' hx p i hp hi) eg hq

set_option maxRecDepth 100000 in
set_option maxHeartbeats 400000 in
theorem sends_any (w : World) (T : TM) (hT : T.At w) (p : Nat) (hp : p < T.n) (m q : Int) :
    Calls Try.prog 90 #[T.val, .int .i64 p, .int .i64 m, .int .i64 q] w fun e w' => e = .returned (.bool (T.sendsB p m q)) ∧ Ext w w' := by
  have hp' : (p : Int) < (T.n : Int) := by omega
  have pa := hT.P.pa (by omega)
  have pb := hT.P.pb (by omega)
  have p2 := hT.P.p2
  have HT := Lib.hid hT
  clear hT
  go_enter Try.func90, Try.ntmps90
  go_upto_region 1 with fail
  refine boxed3 (w := w) (G := fun x => Code.wp _ _ _ _ x) ?_
  intro w2 hx2 hs2 ⟨l0, c0, _, _⟩ ⟨l1, c1, _, _⟩ ⟨l2, c2, _, _⟩
  have HS := Lib.hid hs2
  clear hs2
  have hx : Ext w2 w2 := Ext.refl _
  go_wp2_with fail
  have hc := hasEv w2 T (HT.out.ext hx2) p hp 97 #[.pointer (some ⟨w.heap.size + 1, 0, none⟩), .pointer (some ⟨w.heap.size + 1 + 1, 0, none⟩)] (fun i => decide (T.kind p i = 2) && decide (T.msg p i = m) && decide (T.peer p i = q)) (enters_of Try.func97 (by kernel_rfl) rfl)
    (fun i hi w' hx' => by exact sends1 w' (T.kind p i) (T.peer p i) (T.msg p i) m q _ _ _ _ (c1 w' hx' 0) (c2 w' hx' 0))
  refine hc.mono ?_
  rintro e w' ⟨rfl, hx'⟩
  go_wp2
  go_ret
  exact ⟨rfl, hx2.trans hx'⟩

def FormedP (T : Tr) (p : Nat) (kind peer msg : Int) : Prop := (kind = 1 ∧ peer = 0 ∧ msg = 0) ∨ ((kind = 2 ∨ kind = 3) ∧ 0 ≤ peer ∧ peer ≤ (T.n : Int) - 1 ∧ peer ≠ p ∧ 0 ≤ msg ∧ msg ≤ 199)
def BoolPost (p : Prop) (w : World) (e : Ending) (w' : World) : Prop := ∃ b, e = .returned (.bool b) ∧ (b = true ↔ p) ∧ Ext w w'

set_option maxHeartbeats 400000 in
theorem formed_any (w : World) (T : TM) (hT : T.At w) (p : Nat) (kind peer msg time : Int) (v : Value) :
    Calls Try.prog 87 #[T.val, .int .i64 p, .agg #[.int .i64 kind, .int .i64 peer, .int .i64 msg, .int .i64 time, v]] w (BoolPost (FormedP T.toTr p kind peer msg) w) := by
  have hn := hT.P.hn
  clear hT
  go_enter Try.func87, Try.ntmps87
  go_wp2_with (go_at_call 72; refine (in_any _ _ _ _).mono ?_; rintro e w' ⟨rfl, rfl⟩)
  all_goals go_ret
  all_goals refine ⟨_, rfl, ?_, ((Ext.refl _).alloc' _).alloc' _⟩
  all_goals simp_all [FormedP, inB]
  all_goals omega

end Go.Proofs.Ytecgigeeolindaa
