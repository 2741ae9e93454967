/- The iterator trace.events: all events in order, for every loop body. -/
import Derived.Test.YtecgigeeolindaaTrace
import Derived.Test.YtecgigeeolindaaMem
import Derived.RangeFuncNested
import Derived.RangeFuncBound
import Derived.RangeFuncCalls
import Derived.RangeFuncLeaves
import Derived.Shelf.Abstract
import Derived.Shelf.RegionOpen
import Derived.OwnWalkIn
import Derived.TacticsInMore
import Derived.LoopNIn
import Derived.LoopIn
import Derived.Sort.CutIn
namespace Go.Proofs.Ytecgigeeolindaa
open Go.RowKit Go.Shelf
attribute [local go_sem] Oper.semAt_some

/-- an event's place: process and index (from 0) -/
abbrev Tr.Id (T : Tr) : Type := { x : Nat × Nat // x.1 < T.n ∧ x.2 < T.en x.1 }
def Tr.mk? (T : Tr) (k i : Nat) : Option T.Id := if h : k < T.n ∧ i < T.en k then some ⟨(k, i), h⟩ else none
/-- the events of the first k processes, and the first i of process k -/
def Tr.evsTo (T : Tr) (k i : Nat) : List T.Id := ((List.range k).flatMap fun p => (List.range (T.en p)).filterMap (T.mk? p)) ++ (List.range i).filterMap (T.mk? k)
def Tr.evs (T : Tr) : List T.Id := T.evsTo T.n 0
theorem Tr.evsTo_zero (T : Tr) : T.evsTo 0 0 = [] := rfl
theorem Tr.evsTo_succ (T : Tr) (k i : Nat) (hk : k < T.n) (hi : i < T.en k) : T.evsTo k (i + 1) = T.evsTo k i ++ [⟨(k, i), hk, hi⟩] := by
  unfold Tr.evsTo
  rw [List.range_succ, List.filterMap_append, ← List.append_assoc]
  congr 1
  simp [Tr.mk?, hk, hi]
theorem Tr.evsTo_next (T : Tr) (k : Nat) : T.evsTo k (T.en k) = T.evsTo (k + 1) 0 := by
  unfold Tr.evsTo
  rw [List.range_succ, List.flatMap_append]
  simp
theorem Tr.evsTo_le (T : Tr) (k i : Nat) (hk : k < T.n) (hi : i ≤ T.en k) : T.evsTo k i <+: T.evsTo (k + 1) 0 := by
  have h : ∀ d, i + d = T.en k → T.evsTo k i <+: T.evsTo (k + 1) 0 := by
    intro d
    induction d generalizing i with
    | zero => intro h; rw [show i = T.en k by omega, T.evsTo_next]; exact List.prefix_refl _
    | succ d ih =>
      intro h
      refine List.IsPrefix.trans ?_ (ih (i + 1) (by omega) (by omega))
      rw [T.evsTo_succ k i hk (by omega)]
      exact List.prefix_append _ _
  exact h (T.en k - i) (by omega)
theorem Tr.evsTo_rows (T : Tr) (k : Nat) (hk : k ≤ T.n) : T.evsTo k 0 <+: T.evs := by
  have h : ∀ d k, k + d = T.n → T.evsTo k 0 <+: T.evs := by
    intro d
    induction d with
    | zero => intro k h; rw [show k = T.n by omega]; exact List.prefix_refl _
    | succ d ih => intro k h; exact (T.evsTo_le k 0 (by omega) (Nat.zero_le _)).trans (ih (k + 1) (by omega))
  exact h (T.n - k) k (by omega)
theorem Tr.evsTo_prefix (T : Tr) (k i : Nat) (hk : k < T.n) (hi : i ≤ T.en k) : T.evsTo k i <+: T.evs := (T.evsTo_le k i hk hi).trans (T.evsTo_rows (k + 1) (by omega))
theorem Tr.evsTo_lt (T : Tr) (k i : Nat) (hk : k < T.n) (hi : i < T.en k) : (T.evsTo k i).length < T.evs.length := by
  have h := (T.evsTo_prefix k (i + 1) hk hi).length_le
  rw [T.evsTo_succ k i hk hi] at h
  simp at h; omega

/-- what the iterator hands to the body -/
abbrev TM.encs (T : TM) (x : T.toTr.Id) : Array Value := #[.agg #[.int .i64 x.1.1, .int .i64 (x.1.2 + 1)], T.ev x.1.1 x.1.2]

theorem boxed1a {w : World} {c : Array Value} {t : TypeId} {G : World → Prop}
    (h : ∀ w2, Ext w w2 → w2.heap.size = w.heap.size + 1 → Box w2 w.heap.size c → (∃ o, w2 = w.alloc o) → G w2) : G (w.alloc (.cells c t)) :=
  h _ (Ext.alloc _ _) (by simp) (Box.of (t := t) (by show (w.heap.push _)[w.heap.size]? = _; simp)) ⟨_, rfl⟩

set_option maxRecDepth 100000 in
set_option maxHeartbeats 1000000 in
/-- trace.events: the closure over the boxed trace -/
theorem events_any (T : TM) (w : World) :
    Calls Try.prog 74 #[T.val] w fun e w' => e = .returned (.func (.func 86) #[] #[.pointer (some ⟨w.heap.size, 0, none⟩)]) ∧ w' = w.alloc (.cells #[.slice T.a T.n T.cap] 29) := by
  go_enter Try.func74, Try.ntmps74
  go_wp2
  go_ret
  exact ⟨rfl, rfl⟩

set_option maxRecDepth 100000 in
set_option maxHeartbeats 1000000 in
theorem events1_in (n : Nat) (hn : 1 ≤ n) (l Bn : Nat) (T : TM) (w : World) (hT : T.At w) (J Jx : List T.toTr.Id → World → Prop)
    (hY : ∀ pre x W, J pre W → pre.length < T.toTr.evs.length → YieldAt Fence.wide (n - 1) Try.prog l (T.encs x) W fun e W' =>
      (e = .returned (.bool true) ∧ J (pre ++ [x]) W' ∧ Below w.heap.size W W') ∨ (e = .returned (.bool false) ∧ Jx (pre ++ [x]) W'))
    (W : World) (hW : Ext w W) (hb : W.cell? ⟨Bn, 0, none⟩ = some (.slice T.a T.n T.cap)) (hJ : AbidesFrom W.heap.size J) (h0 : J [] W) :
    CallsIn Fence.wide n Try.prog 86 #[.func (.yield l) #[] #[], .pointer (some ⟨Bn, 0, none⟩)] W fun e W' => (∃ v, e = .returned v) ∧
      ((∃ ys, ys = T.toTr.evs ∧ J ys W') ∨ (∃ pre, pre <+: T.toTr.evs ∧ Jx pre W')) := by
  have HY := Lib.hid hY
  have HT := Lib.hid hT
  have HJ : ∀ pre W1 o, J pre W1 → J pre (W1.alloc o) := fun pre W1 o h => hJ pre W1 _ none h (World.grownBy_alloc W1 o none) (fun r e => by cases e)
  have HJ := Lib.hid HJ
  have hn0 := hT.P.hn
  have p0 := hT.P.p0
  have p1 := hT.P.p1
  have p2 := hT.P.p2
  have e0 := hT.E.e0
  have e1 := hT.E.e1
  have e2 := hT.E.e2
  have e3 := hT.E.e3
  have e4 := hT.E.e4
  clear hY hT hJ
  by_cases hz : 0 < T.n
  · have pa := HT.out.P.pa hz
    have pb := HT.out.P.pb hz
    refine callsIn_of_wp Try.func86 rfl trivial ?_ rfl
    simp only [Try.ntmps86, List.size_toArray, List.length_cons, List.length_nil, Nat.reduceAdd, Nat.reduceSub, Array.replicate_succ, Array.replicate_zero, List.push_toArray, List.append_toArray, List.nil_append, List.cons_append]
    gi_wp2
    clear hb
    gi_loopw [10] (fun v wr => ∃ k : Nat, k ≤ T.n ∧ v = .int .i64 k ∧ Ext w wr ∧ J (T.toTr.evsTo k 0) wr) (fun v _ => T.n - (intOf v).toNat)
    case atStart => exact ⟨0, Nat.zero_le _, rfl, hW, by rw [Tr.evsTo_zero]; exact h0⟩
    obtain ⟨k, hk, rfl, hxr, hJr⟩ := hrel
    by_cases hlt : k < T.n
    · have hen := HT.out.E.he k hlt
      by_cases hez : 0 < T.en k
      · have ea := HT.out.E.ea k hlt hez
        have eb := HT.out.E.eb k hlt hez
        gi_upto_region 3 with fail
        refine boxed1a (w := wr) (G := fun x => Code.wpIn _ _ _ _ _ _ x) ?_
        intro w3 hx3 hs3 ⟨l3, c3, _, _⟩ ⟨o3, ho3⟩
        have hJ3 : J (T.toTr.evsTo k 0) w3 := by rw [ho3]; exact HJ.out _ _ _ hJr
        clear hs3 ho3
        have hx33 : Ext w3 w3 := Ext.refl _
        have hxw3 : Ext w w3 := hxr.trans hx3
        gi_wp2
        gi_loopw [18] (fun v wr => ∃ i : Nat, i ≤ T.en k ∧ v = .int .i64 i ∧ Ext w wr ∧ J (T.toTr.evsTo k i) wr) (fun v _ => T.en k - (intOf v).toNat)
        case atStart => exact ⟨0, Nat.zero_le _, rfl, hxw3, hJ3⟩
        obtain ⟨i, hi, rfl, hxi, hJi⟩ := hrel
        by_cases hli : i < T.en k
        · have hi' : (i : Int) < (T.en k : Int) := by omega
          gi_upto_region 6 with fail
          refine boxed1a (w := wr) (G := fun x => Code.wpIn _ _ _ _ _ _ x) ?_
          intro w4 hx4 hs4 ⟨l4, c4, _, _⟩ ⟨o4, ho4⟩
          have hJ4 : J (T.toTr.evsTo k i) w4 := by rw [ho4]; exact HJ.out _ _ _ hJi
          clear hs4 ho4
          have hx44 : Ext w4 w4 := Ext.refl _
          have hxw4 : Ext w w4 := hxi.trans hx4
          obtain ⟨fn, tmps, assign, body, hy, hR⟩ := HY.out _ ⟨(k, i), hlt, hli⟩ w4 hJ4 (T.toTr.evsTo_lt k i hlt hli)
          simp only [TM.encs] at hy
          gi_wp2
          refine hR.mono ?_
          rintro e w5 (⟨rfl, hJ5, hk5⟩ | ⟨rfl, hJx5⟩)
          · have hxw5 : Ext w w5 := Below.trans hxw4 hk5
            gi_wp2
            go_roundw
            case rel => exact ⟨i + 1, by omega, by go_num, hxw5, by rw [T.toTr.evsTo_succ k i hlt hli]; exact hJ5⟩
            case measure => simp [intOf]; omega
          · gi_wp2
            refine bodyPost_ret (results_none rfl _ _ _) rfl ?_
            exact ⟨⟨_, rfl⟩, .inr ⟨_, by have := T.toTr.evsTo_prefix k (i + 1) hlt hli; rw [T.toTr.evsTo_succ k i hlt hli] at this; exact this, hJx5⟩⟩
        · gi_wp2
          go_roundw
          case rel => exact ⟨k + 1, by omega, by go_num, hxi, by rw [← T.toTr.evsTo_next, show T.en k = i by omega]; exact hJi⟩
          case measure => simp [intOf]; omega
      · skip
        gi_upto_region 3 with fail
        refine boxed1a (w := wr) (G := fun x => Code.wpIn _ _ _ _ _ _ x) ?_
        intro w3 hx3 hs3 ⟨l3, c3, _, _⟩ ⟨o3, ho3⟩
        have hJ3 : J (T.toTr.evsTo k 0) w3 := by rw [ho3]; exact HJ.out _ _ _ hJr
        clear hs3 ho3
        have hx33 : Ext w3 w3 := Ext.refl _
        have hxw3 : Ext w w3 := hxr.trans hx3
        gi_wp2
        gi_loopw [18] (fun v wr => ∃ i : Nat, i ≤ T.en k ∧ v = .int .i64 i ∧ Ext w wr ∧ J (T.toTr.evsTo k i) wr) (fun v _ => T.en k - (intOf v).toNat)
        case atStart => exact ⟨0, Nat.zero_le _, rfl, hxw3, hJ3⟩
        obtain ⟨i, hi, rfl, hxi, hJi⟩ := hrel
        by_cases hli : i < T.en k
        · exact absurd hli (by omega)
        · gi_wp2
          go_roundw
          case rel => exact ⟨k + 1, by omega, by go_num, hxi, by rw [← T.toTr.evsTo_next, show T.en k = i by omega]; exact hJi⟩
          case measure => simp [intOf]; omega
    · gi_wp2
      go_end0
      exact ⟨⟨_, rfl⟩, .inl ⟨_, rfl, by unfold Tr.evs; rw [show T.n = k by omega]; exact hJr⟩⟩
  · skip
    refine callsIn_of_wp Try.func86 rfl trivial ?_ rfl
    simp only [Try.ntmps86, List.size_toArray, List.length_cons, List.length_nil, Nat.reduceAdd, Nat.reduceSub, Array.replicate_succ, Array.replicate_zero, List.push_toArray, List.append_toArray, List.nil_append, List.cons_append]
    gi_wp2
    clear hb
    gi_loopw [10] (fun v wr => ∃ k : Nat, k ≤ T.n ∧ v = .int .i64 k ∧ Ext w wr ∧ J (T.toTr.evsTo k 0) wr) (fun v _ => T.n - (intOf v).toNat)
    case atStart => exact ⟨0, Nat.zero_le _, rfl, hW, by rw [Tr.evsTo_zero]; exact h0⟩
    obtain ⟨k, hk, rfl, hxr, hJr⟩ := hrel
    by_cases hlt : k < T.n
    · exact absurd hlt (by omega)
    · gi_wp2
      go_end0
      exact ⟨⟨_, rfl⟩, .inl ⟨_, rfl, by unfold Tr.evs; rw [show T.n = k by omega]; exact hJr⟩⟩

/-- the closure's contract, as the law of a range over a function wants it: w: where the trace lies; wb: where the loop begins -/
theorem events_stops (n : Nat) (hn : 1 ≤ n) (Bn : Nat) (T : TM) (w wb : World) (hT : T.At w) (hwb : Ext w wb) (hB : wb.cell? ⟨Bn, 0, none⟩ = some (.slice T.a T.n T.cap)) :
    SeqStopsK Fence.wide n Try.prog 86 #[.pointer (some ⟨Bn, 0, none⟩)] T.encs (Below w.heap.size) (fun ys => ys = T.toTr.evs) (fun pre => pre <+: T.toTr.evs) T.toTr.evs.length wb :=
  fun l J Jx W hW hJ _ hY h0 => events1_in n hn l Bn T w hT J Jx hY W (hwb.trans hW) (Ext.cell hW hB) hJ h0

end Go.Proofs.Ytecgigeeolindaa
