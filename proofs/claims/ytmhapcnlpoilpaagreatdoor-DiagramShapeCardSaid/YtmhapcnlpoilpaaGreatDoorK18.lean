/- Contract of the law's few: it says no, or the trace has at most 10 processes and 80 events. Contract: lamport.Check. Contract of antecederef14: Latest. Contract of antecederef14: Check; it is the program's condition. antecederef14.Stamps: plain part: numbers are raised until nothing changes. A table of numbers: rows of the call's own, each in a block of its own (as the table of bools of antecederef12.Past). Contract of antecederef14: Stamps. Slices of structs (of one-cell fields) and slices of one-cell elements that came in, opened at every index; lengths are within the reach. Nothing of the program. A trace, an event and a list of lists of numbers that came in, read as plain data. What the rows of the laws that take traces share: arguments opened, the post laid together. Contracts: causality.before, Before (of events of a valid trace). Contract: causality.Before (of events of a valid trace). Parts of the law LamportOrder: what happens before has a smaller stamp; stamps read from memory. Contract of antecederef14: Event; an event that came in; parts of the law LamportChains. Contract: slices.Clone at []int. Parts of the law LamportLeast: the least property; the table 'less' in memory. -/
import Derived.Test.YtmhapcnlpoilpaaGreatDoorK03
import Derived.Test.YtmhapcnlpoilpaaGreatDoorK02
import Derived.Test.YtmhapcnlpoilpaaGreatDoorK06
import Derived.Deep.LoopGhost
import Derived.Test.YtmhapcnlpoilpaaGreatDoorK16
import Derived.Test.YtmhapcnlpoilpaaGreatDoorK15
import Derived.Test.YtmhapcnlpoilpaaGreatDoorK01
import Derived.ProofKit
import Derived.OpenShut
import Derived.SizedLaws
import Derived.Deep.Slices
import Derived.Deep.Fields
import Derived.ChangeSame
import Derived.Carry
import Derived.WalkKit
import Derived.Test.YtmhapcnlpoilpaaGreatDoorK07
namespace Go.Proofs.YtmhapcnlpoilpaaGreatDoor
open Go.RowKit Go.Shelf
def FewPost (T : TM) (w : World) (e : Ending) (w' : World) : Prop := Ext w w' ∧ ∃ b : Bool, e = .returned (.bool b) ∧ (b = true → T.n ≤ 10 ∧ tot T.en T.n ≤ 80)
theorem tot_succ (f : Nat → Nat) (n : Nat) : tot f (n + 1) = tot f n + f n := rfl
theorem tot_mono {f : Nat → Nat} {k : Nat} : ∀ {n : Nat}, k ≤ n → tot f k ≤ tot f n
 | 0, h => by rw [show k = 0 by omega]; exact Nat.le_refl _
 | n + 1, h => by
  rcases Nat.lt_or_ge n k with h' | h'
  ·rw [show k = n + 1 by omega]; exact Nat.le_refl _
  ·have := tot_mono (f := f) h'; rw [tot_succ]; omega
theorem tot_one_le {f : Nat → Nat} {k n : Nat} (h : k < n) : f k ≤ tot f n := by
 have h1 := tot_mono (f := f) (k := k + 1) (n := n) (by omega)
 rw [tot_succ] at h1; omega
end Go.Proofs.YtmhapcnlpoilpaaGreatDoor

namespace Go.Proofs.YtmhapcnlpoilpaaGreatDoor
open Go.RowKit Go.Shelf
def Mx.last (M : Mx) (p i : Nat) : Int := if i = 0 then 0 else M.val p (i - 1)
theorem Mx.last_succ (M : Mx) (p i : Nat) : M.last p (i + 1) = M.val p i := by unfold Mx.last; rw [if_neg (by omega)]; rfl
def Tr.CkOk (T : Tr) (M : Mx) (p i : Nat) : Prop := M.last p i < M.val p i ∧ M.val p i ≤ 1125899906842624 ∧ (T.kind p i = 3 → M.val (T.sndN (p, i)).1 (T.sndN (p, i)).2 < M.val p i)
def Tr.CheckP (T : Tr) (M : Mx) : Prop := T.Valid ∧ T.FitsM M ∧ ∀ p i, p < T.n → i < T.en p → T.CkOk M p i
end Go.Proofs.YtmhapcnlpoilpaaGreatDoor

namespace Go.Proofs.YtmhapcnlpoilpaaGreatDoor
open Go.RowKit Go.Shelf
def Mx.top (M : Mx) (l : List NN) : Int := l.foldl (fun k y => max k (M.val y.1 y.2)) 0
noncomputable def Tr.latest (T : Tr) (M : Mx) (x : NN) : Int := M.top (T.bk x)
end Go.Proofs.YtmhapcnlpoilpaaGreatDoor

namespace Go.Proofs.YtmhapcnlpoilpaaGreatDoor
open Go.RowKit Go.Shelf
theorem foldl_max_lt {f : NN → Int} {v : Int} : ∀ (l : List NN) (a : Int), l.foldl (fun k y => max k (f y)) a < v ↔ a < v ∧ ∀ y ∈ l, f y < v
 | [], a => by simp
 | x :: l, a => by
  rw [List.foldl_cons, foldl_max_lt l]
  constructor
  ·rintro ⟨h1, h2⟩
   refine ⟨by omega, fun y hy => ?_⟩
   rcases List.mem_cons.1 hy with rfl | hy
   ·omega
   ·exact h2 y hy
  ·rintro ⟨h1, h2⟩
   have := h2 x (by simp)
   exact ⟨by omega, fun y hy => h2 y (by simp [hy])⟩
theorem Mx.top_lt {M : Mx} {l : List NN} {v : Int} : M.top l < v ↔ 0 < v ∧ ∀ y ∈ l, M.val y.1 y.2 < v := foldl_max_lt (f := fun y => M.val y.1 y.2) l 0
def Tr.RCk (T : Tr) (M : Mx) (p i : Nat) : Prop := 1 ≤ M.val p i ∧ M.val p i ≤ 1125899906842624 ∧ T.latest M (p, i) < M.val p i
theorem Tr.rck_iff {T : Tr} {M : Mx} {p i : Nat} : T.RCk M p i ↔ M.val p i ≤ 1125899906842624 ∧ 0 < M.val p i ∧ ∀ y, T.Dir y (p, i) → M.val y.1 y.2 < M.val p i := by
 unfold Tr.RCk Tr.latest
 rw [Mx.top_lt]
 constructor
 ·rintro ⟨h1, h2, h3, h4⟩
  exact ⟨h2, h3, fun y hy => h4 y (Tr.mem_bk.2 hy)⟩
 ·rintro ⟨h2, h3, h4⟩
  exact ⟨by omega, h2, h3, fun y hy => h4 y (Tr.mem_bk.1 hy)⟩
def Tr.RCheck (T : Tr) (M : Mx) : Prop := T.Valid ∧ T.FitsM M ∧ ∀ p i, p < T.n → i < T.en p → T.RCk M p i
theorem Tr.check_iff {T : Tr} {M : Mx} : T.RCheck M ↔ T.CheckP M := by
 unfold Tr.RCheck Tr.CheckP
 refine and_congr_right fun _ => and_congr_right fun _ => ?_
 constructor
 ·intro h p i hp hi
  obtain ⟨h1, h2, h3⟩ := Tr.rck_iff.1 (h p i hp hi)
  refine ⟨?_, h1, fun hk => h3 _ (.inr ⟨hk, rfl⟩)⟩
  unfold Mx.last
  by_cases h0 : i = 0
  ·rw [if_pos h0]; exact h2
  ·rw [if_neg h0]; exact h3 (p, i - 1) (.inl ⟨rfl, by show i = i - 1 + 1; omega⟩)
 ·intro h p i hp hi
  have hpos : ∀ j, j < T.en p → 0 < M.val p j := by
   intro j
   induction j with
   | zero => intro hj; have := (h p 0 hp hj).1; exact this
   | succ j ih => intro hj; have h1 := (h p (j + 1) hp hj).1; rw [Mx.last_succ] at h1; have := ih (by omega); omega
  refine Tr.rck_iff.2 ⟨(h p i hp hi).2.1, hpos i hi, fun y hy => ?_⟩
  rcases hy with ⟨h1, h2⟩ | ⟨h1, h2⟩
  ·obtain ⟨yp, yi⟩ := y
   have h1 : p = yp := h1
   have h2 : i = yi + 1 := h2
   subst h1 h2
   have := (h p (yi + 1) hp hi).1
   rw [Mx.last_succ] at this; exact this
  ·rw [h2]; exact (h p i hp hi).2.2 h1
end Go.Proofs.YtmhapcnlpoilpaaGreatDoor

namespace Go.Proofs.YtmhapcnlpoilpaaGreatDoor
theorem Mx.top_ge (M : Mx) (l : List NN) : 0 ≤ M.top l ∧ ∀ y ∈ l, M.val y.1 y.2 ≤ M.top l := by
 have h := (Mx.top_lt (M := M) (l := l) (v := M.top l + 1)).1 (by omega)
 exact ⟨by omega, fun y hy => by have := h.2 y hy; omega⟩
theorem Tr.Stamps.dir_lt {T : Tr} {rows : Nat → List Int} (h : T.Stamps rows) {x y : NN} (hx : T.V x) (hd : T.Dir y x) : stOf rows y < stOf rows x := by
 have e := h.eq x.1 x.2 hx.1 hx.2
 have e' : stOf rows x = max (if x.2 = 0 then 0 else (rows x.1).getD (x.2 - 1) 0) (if T.kind x.1 x.2 = 3 then stOf rows (T.sndN x) else 0) + 1 := e
 rcases hd with ⟨h1, h2⟩ | ⟨h1, h2⟩
 ·obtain ⟨xp, xi⟩ := x
  obtain ⟨yp, yi⟩ := y
  have h1 : xp = yp := h1
  have h2 : xi = yi + 1 := h2
  subst h1 h2
  have h3 : (if (yi + 1) = 0 then (0 : Int) else (rows xp).getD (yi + 1 - 1) 0) = stOf rows (xp, yi) := by rw [if_neg (by omega)]; rfl
  have e' : stOf rows (xp, yi + 1) = max (if (yi + 1) = 0 then 0 else (rows xp).getD (yi + 1 - 1) 0) (if T.kind xp (yi + 1) = 3 then stOf rows (T.sndN (xp, yi + 1)) else 0) + 1 := e'
  rw [h3] at e'
  show stOf rows (xp, yi) < stOf rows (xp, yi + 1)
  rw [e']
  exact Int.lt_add_one_of_le (Int.le_max_left _ _)
 ·rw [if_pos h1, ← h2] at e'
  rw [e']
  exact Int.lt_add_one_of_le (Int.le_max_right _ _)
theorem Tr.Stamps.pos {T : Tr} {rows : Nat → List Int} (h : T.Stamps rows) {x : NN} (hx : T.V x) : 1 ≤ stOf rows x ∧ stOf rows x ≤ (tot T.en T.n : Nat) := h.sm x.1 x.2 hx.1 hx.2
def mxOf (T : Tr) (f : Nat → Nat → Int) : Mx := ⟨T.n, T.en, f⟩
def Tr.RsI (T : Tr) (rows : Nat → List Int) (f : Nat → Nat → Int) : Prop := ∀ p i, p < T.n → i < T.en p → 0 ≤ f p i ∧ f p i ≤ stOf rows (p, i)
theorem Tr.RsI.start {T : Tr} {rows : Nat → List Int} (h : T.Stamps rows) : T.RsI rows (fun _ _ => 0) := fun p i hp hi => ⟨Int.le_refl _, by have := h.pos (x := (p, i)) ⟨hp, hi⟩; show (0 : Int) ≤ stOf rows (p, i); omega⟩
theorem Tr.RsI.lat {T : Tr} {rows : Nat → List Int} {f : Nat → Nat → Int} (h : T.RsI rows f) (hR : T.Stamps rows) {p i : Nat} (hp : p < T.n) (hi : i < T.en p) {M : Mx} (hM : M.val = f) : 0 ≤ T.latest M (p, i) ∧ 1 + T.latest M (p, i) ≤ stOf rows (p, i) := by
 have h1 := hR.pos (x := (p, i)) ⟨hp, hi⟩
 have h2 : M.top (T.bk (p, i)) < stOf rows (p, i) := by
  refine Mx.top_lt.2 ⟨by omega, fun y hy => ?_⟩
  have hd := Tr.mem_bk.1 hy
  have hv : T.V y := Tr.Dir.V (y := (p, i)) ⟨hp, hi⟩ hd
  have h3 := hR.dir_lt (x := (p, i)) ⟨hp, hi⟩ hd
  have h4 := (h y.1 y.2 hv.1 hv.2).2
  rw [hM]
  have h5 : stOf rows (y.1, y.2) = stOf rows y := rfl
  omega
 have h3 := (Mx.top_ge M (T.bk (p, i))).1
 unfold Tr.latest
 omega
def updF (f : Nat → Nat → Int) (p i : Nat) (v : Int) : Nat → Nat → Int := fun k j => if k = p ∧ j = i then v else f k j
theorem Tr.RsI.upd {T : Tr} {rows : Nat → List Int} {f : Nat → Nat → Int} (h : T.RsI rows f) {p i : Nat} {v : Int} (h0 : 0 ≤ v) (h1 : v ≤ stOf rows (p, i)) : T.RsI rows (updF f p i v) := by
 intro k j hk hj
 unfold updF
 by_cases e : k = p ∧ j = i
 ·rw [if_pos e, e.1, e.2]; exact ⟨h0, h1⟩
 ·rw [if_neg e]; exact h k j hk hj
def Tr.RsOk (T : Tr) (f : Nat → Nat → Int) (p i : Nat) : Prop := 1 + T.latest (mxOf T f) (p, i) ≤ f p i
theorem Tr.RsI.fix {T : Tr} {rows : Nat → List Int} {f : Nat → Nat → Int} (h : T.RsI rows f) (hR : T.Stamps rows) (hV : T.Valid) (ho : ∀ p i, p < T.n → i < T.en p → T.RsOk f p i) : ∀ p i, p < T.n → i < T.en p → f p i = stOf rows (p, i) := by
 have key := hV.ind (P := fun y => f y.1 y.2 = stOf rows y) (fun y hy ih => by
  obtain ⟨p, i⟩ := y
  have h1 := (h p i hy.1 hy.2).2
  have h2 := ho p i hy.1 hy.2
  unfold Tr.RsOk Tr.latest at h2
  have h3 := Mx.top_ge (mxOf T f) (T.bk (p, i))
  have e := hR.eq p i hy.1 hy.2
  have e' : stOf rows (p, i) = max (if i = 0 then 0 else (rows p).getD (i - 1) 0) (if T.kind p i = 3 then stOf rows (T.sndN (p, i)) else 0) + 1 := e
  have hprev : (if i = 0 then 0 else (rows p).getD (i - 1) 0) ≤ (mxOf T f).top (T.bk (p, i)) := by
   by_cases h0 : i = 0
   ·rw [if_pos h0]; exact h3.1
   ·rw [if_neg h0]
    have hd : T.Dir (p, i - 1) (p, i) := .inl ⟨rfl, by show i = i - 1 + 1; omega⟩
    have h4 := h3.2 _ (Tr.mem_bk.2 hd)
    have h5 := ih _ (Tr.Dir.V hy hd) hd
    have h6 : f p (i - 1) = stOf rows (p, i - 1) := h5
    have h7 : f p (i - 1) ≤ (mxOf T f).top (T.bk (p, i)) := h4
    rw [h6] at h7; exact h7
  have hsnd : (if T.kind p i = 3 then stOf rows (T.sndN (p, i)) else 0) ≤ (mxOf T f).top (T.bk (p, i)) := by
   by_cases h0 : T.kind p i = 3
   ·rw [if_pos h0]
    have hd : T.Dir (T.sndN (p, i)) (p, i) := .inr ⟨h0, rfl⟩
    have h4 := h3.2 _ (Tr.mem_bk.2 hd)
    have h5 := ih _ (Tr.Dir.V hy hd) hd
    rw [← h5]; exact h4
   ·rw [if_neg h0]; exact h3.1
  show f p i = stOf rows (p, i)
  omega)
 exact fun p i hp hi => key (p, i) ⟨hp, hi⟩
end Go.Proofs.YtmhapcnlpoilpaaGreatDoor

namespace Go.Proofs.YtmhapcnlpoilpaaGreatDoor
open Go.RowKit Go.Shelf
structure IRow (w : World) (g n : Nat) (f : Nat → Int) : Prop where
 c : ∀ i, i < n → w.cell? ⟨g, i, none⟩ = some (.int .i64 (f i))
 fr : ∀ o, w.frozen? ⟨g, o, none⟩ = false
 lt : g < w.heap.size
theorem IRow.block {w w' : World} {g n : Nat} {f : Nat → Int} (h : IRow w g n f) (hs : w.heap.size ≤ w'.heap.size) (x : w'.heap[g]? = w.heap[g]?) : IRow w' g n f :=
 ⟨fun k hk => (World.cell?_of_block (w := w) (a := ⟨g, k, none⟩) x).trans (h.c k hk), fun o => (World.frozen?_of_block (w := w) (a := ⟨g, o, none⟩) x).trans (h.fr o), Nat.lt_of_lt_of_le h.lt hs⟩
theorem IRow.made {w : World} {base g n : Nat} (h : w.ownsRow base 3 1 (.slice (some ⟨g, 0, none⟩) n n) n (madeCells (Value.int .i64 0).cells (n * 1)).toList) : IRow w g n (fun _ => 0) := by
 obtain ⟨h1, ⟨hv, _⟩ | ⟨g', cap, cur, hv, hg, hh, hc, hm, hs, ht⟩⟩ := h
 ·cases hv
 ·simp only [Value.slice.injEq, Option.some.injEq, Addr.mk.injEq] at hv
  obtain ⟨⟨rfl, _⟩, _, rfl⟩ := hv
  have hb := Box.of hh
  have hz : (Value.int .i64 0).cells = #[.int .i64 0] := rfl
  rw [hz, toList_madeCells_one] at ht
  refine ⟨fun k hk => ?_, fun o => hb.frozen w (Ext.refl _) o, hb.lt w (Ext.refl _)⟩
  rw [hb.cell w (Ext.refl _)]
  have : cur[k]? = (List.replicate (n * 1) (Value.int .i64 0))[k]? := by rw [← ht, List.getElem?_take_of_lt (by omega)]; simp
  rw [this, List.getElem?_replicate, if_pos (by omega)]
theorem IRow.congr {w : World} {g n : Nat} {f f' : Nat → Int} (h : IRow w g n f) (e : ∀ i, f i = f' i) : IRow w g n f' := ⟨fun i hi => by rw [← e]; exact h.c i hi, h.fr, h.lt⟩
structure IoM (wb B n : Nat) (len : Nat → Nat) (v : Value) (rb : Nat → Nat) (f : Nat → Nat → Int) (w : World) : Prop where
 own : w.ownsRow wb 25 1 v n ((List.range n).map fun k => Value.slice (some ⟨rb k, 0, none⟩) (len k) (len k))
 vhi : ∀ g, v.ownBlock = some g → g < B
 row : ∀ k, k < n → IRow w (rb k) (len k) (f k)
 lo : ∀ k, k < n → wb ≤ rb k
 hi : ∀ k, k < n → rb k < B
 inj : ∀ j k, j < n → k < n → j ≠ k → rb j ≠ rb k
 far : ∀ k, k < n → v.ownBlock ≠ some (rb k)
theorem IoM.nil (wb B : Nat) (len : Nat → Nat) (rb : Nat → Nat) (f : Nat → Nat → Int) (w : World) : IoM wb B 0 len (.slice none 0 0) rb f w :=
 ⟨World.ownsRow_nil _ _ _ _, (fun g e => by cases e), fun k hk => absurd hk (Nat.not_lt_zero _), fun k hk => absurd hk (Nat.not_lt_zero _), fun k hk => absurd hk (Nat.not_lt_zero _), fun k _ hk => absurd hk (Nat.not_lt_zero _), fun k hk => absurd hk (Nat.not_lt_zero _)⟩
theorem IoM.same {wb B n : Nat} {len : Nat → Nat} {v : Value} {rb : Nat → Nat} {f : Nat → Nat → Int} {w w' : World} (h : IoM wb B n len v rb f w) (hs : w.heap.size ≤ w'.heap.size) (hb : ∀ g, wb ≤ g → g < B → w'.heap[g]? = w.heap[g]?) : IoM wb B n len v rb f w' :=
 ⟨ownsRow_same h.own fun g e => hb g (by
     obtain ⟨_, ⟨hv, _⟩ | ⟨g', cap, cur, hv, hg, _⟩⟩ := h.own
     ·subst hv; cases e
     ·subst hv; simp [Value.ownBlock] at e; omega) (h.vhi g e), h.vhi, fun k hk => (h.row k hk).block hs (hb _ (h.lo k hk) (h.hi k hk)), h.lo, h.hi, h.inj, h.far⟩
theorem IoM.ext {wb B n : Nat} {len : Nat → Nat} {v : Value} {rb : Nat → Nat} {f : Nat → Nat → Int} {w w' : World} (h : IoM wb B n len v rb f w) (hB : B ≤ w.heap.size) (x : Ext w w') : IoM wb B n len v rb f w' :=
 h.same x.le fun g _ hg => x.block g (by omega)
theorem IoM.raise {wb B B' n : Nat} {len : Nat → Nat} {v : Value} {rb : Nat → Nat} {f : Nat → Nat → Int} {w : World} (h : IoM wb B n len v rb f w) (hB : B ≤ B') : IoM wb B' n len v rb f w :=
 ⟨h.own, fun g e => Nat.lt_of_lt_of_le (h.vhi g e) hB, h.row, h.lo, fun k hk => Nat.lt_of_lt_of_le (h.hi k hk) hB, h.inj, h.far⟩
theorem IoM.push {wb n L : Nat} {len : Nat → Nat} {v v' : Value} {rb : Nat → Nat} {f : Nat → Nat → Int} {wr w3 w5 : World} {c : Array Value} {t : TypeId} (h : IoM wb wr.heap.size n len v rb f wr) (hw : wb ≤ wr.heap.size) (x3 : Ext wr w3)
    (hn : IRow w3 wr.heap.size L (fun _ => 0)) (hL : L = len n) (hf : ∀ i, f n i = 0)
    (hown : w5.ownsRow wb 25 1 v' (n + 1) (((List.range n).map fun k => Value.slice (some ⟨rb k, 0, none⟩) (len k) (len k)) ++ [.slice (some ⟨wr.heap.size, 0, none⟩) L L]))
    (hg : (w3.alloc (.cells c t)).grownBy w5 v.ownBlock) (hat : v'.ownBlock = v.ownBlock ∨ v'.ownBlock = some (w3.heap.size + 1)) :
    IoM wb w5.heap.size (n + 1) len v' (updC rb n wr.heap.size) f w5 ∧ Below wb wr w5 := by
 subst hL
 have hlt3 := hn.lt
 have hsz : w3.heap.size + 1 ≤ w5.heap.size := by have := hg.size; rw [World.size_alloc] at this; exact this
 have hbl : ∀ g, g < w3.heap.size → v.ownBlock ≠ some g → w5.heap[g]? = w3.heap[g]? := fun g h1 h2 => by
  rw [hg.block g (by rw [World.size_alloc]; omega) (fun e => h2 e.symm), Below.heap_alloc _ _ _ h1]
 have hold : ∀ k, k < n → updC rb n wr.heap.size k = rb k := fun k hk => by unfold updC; rw [if_neg (by omega)]
 have hnew : updC rb n wr.heap.size n = wr.heap.size := by unfold updC; rw [if_pos rfl]
 have hcase : ∀ k, k < n + 1 → k < n ∨ k = n := fun k hk => by omega
 have hv' : ∀ g, v'.ownBlock = some g → g < w5.heap.size := by
  intro g e
  obtain ⟨_, ⟨hv, _⟩ | ⟨g', cap, cur, hv, hg', hh, _⟩⟩ := hown
  ·subst hv; cases e
  ·subst hv; simp [Value.ownBlock] at e; subst e; exact (Array.getElem?_eq_some_iff.1 hh).1
 have hvw : v.ownBlock ≠ some wr.heap.size := fun e => by have := h.vhi _ e; omega
 refine ⟨⟨?_, hv', fun k hk => ?_, fun k hk => ?_, fun k hk => ?_, fun j k hj hk hne => ?_, fun k hk => ?_⟩, ?_⟩
 ·rw [List.range_succ, List.map_append]
  simp only [List.map_cons, List.map_nil, hnew]
  rw [List.map_congr_left (g := fun k => Value.slice (some ⟨rb k, 0, none⟩) (len k) (len k)) fun k hk => by rw [hold k (List.mem_range.1 hk)]]
  exact hown
 ·rcases hcase k hk with hk | rfl
  ·rw [hold k hk]
   have h1 := h.hi k hk
   refine (h.row k hk).block (by have := x3.le; omega) ?_
   rw [hbl _ (by have := x3.le; omega) (h.far k hk), x3.block _ h1]
  ·rw [hnew]
   exact (hn.block (by omega) (hbl _ hlt3 hvw)).congr fun i => (hf i).symm
 ·rcases hcase k hk with hk | rfl
  ·rw [hold k hk]; exact h.lo k hk
  ·rw [hnew]; exact hw
 ·rcases hcase k hk with hk | rfl
  ·rw [hold k hk]; have := h.hi k hk; have := x3.le; omega
  ·rw [hnew]; omega
 ·rcases hcase j hj with hj | rfl <;> rcases hcase k hk with hk | rfl
  ·rw [hold j hj, hold k hk]; exact h.inj j k hj hk hne
  ·rw [hold j hj, hnew]; have := h.hi j hj; omega
  ·rw [hold k hk, hnew]; have := h.hi k hk; omega
  ·exact absurd rfl hne
 ·intro e
  rcases hat with e' | e'
  ·rcases hcase k hk with hk | rfl
   ·rw [hold k hk] at e; exact h.far k hk (e' ▸ e)
   ·rw [hnew] at e; exact hvw (e' ▸ e)
  ·rw [e', Option.some.injEq] at e
   rcases hcase k hk with hk | rfl
   ·rw [hold k hk] at e; have := h.hi k hk; have := x3.le; omega
   ·rw [hnew] at e; omega
 ·have b1 : Below wb w3 w5 := ((Below.refl wb w3).alloc (by have := x3.le; omega) _).grown hg (by rw [World.size_alloc]; have := x3.le; omega) (fun k e => by
    obtain ⟨_, ⟨hv, _⟩ | ⟨g', cap, cur, hv, hg', _⟩⟩ := h.own
    ·subst hv; cases e
    ·subst hv; simp [Value.ownBlock] at e; omega)
  exact (Below.mono x3 hw).trans b1
theorem IoM.form {wb B n : Nat} {len : Nat → Nat} {v : Value} {rb : Nat → Nat} {f : Nat → Nat → Int} {w : World} (h : IoM wb B n len v rb f w) (h0 : 0 < n) :
    ∃ g cap, v = .slice (some ⟨g, 0, none⟩) n cap ∧ wb ≤ g ∧ g < B ∧ n ≤ cap := by
 obtain ⟨h1, ⟨hv, hn⟩ | ⟨g, cap, cur, hv, hg, hh, hc, hm, hs, ht⟩⟩ := h.own
 ·omega
 ·exact ⟨g, cap, hv, hg, h.vhi g (by rw [hv]; rfl), hc⟩
theorem IoM.cell {wb B n g cap : Nat} {len : Nat → Nat} {rb : Nat → Nat} {f : Nat → Nat → Int} {w : World} (h : IoM wb B n len (.slice (some ⟨g, 0, none⟩) n cap) rb f w) :
    g < w.heap.size ∧ ∀ k, k < n → w.cell? ⟨g, k, none⟩ = some (.slice (some ⟨rb k, 0, none⟩) (len k) (len k)) := by
 obtain ⟨h1, ⟨hv, hn⟩ | ⟨g', cap', cur, hv, hg, hh, hc, hm, hs, ht⟩⟩ := h.own
 ·cases hv
 ·simp only [Value.slice.injEq, Option.some.injEq, Addr.mk.injEq] at hv
  obtain ⟨⟨rfl, _⟩, _, rfl⟩ := hv
  have hb := Box.of hh
  refine ⟨hb.lt w (Ext.refl _), fun k hk => ?_⟩
  rw [hb.cell w (Ext.refl _)]
  have : cur[k]? = ((List.range n).map fun k => Value.slice (some ⟨rb k, 0, none⟩) (len k) (len k))[k]? := by rw [← ht, List.getElem?_take_of_lt (by omega)]; simp
  rw [this, List.getElem?_map, List.getElem?_range hk]; rfl
theorem IoM.set {wb B n p i : Nat} {len : Nat → Nat} {v : Value} {rb : Nat → Nat} {f f' : Nat → Nat → Int} {x : Int} {w : World} (h : IoM wb B n len v rb f w) (hp : p < n) (hi : i < len p) (hf : ∀ k j, f' k j = if k = p ∧ j = i then x else f k j) :
    IoM wb B n len v rb f' (w.setCell ⟨rb p, i, none⟩ (.int .i64 x)) := by
 have hoth : ∀ g, g ≠ rb p → (w.setCell ⟨rb p, i, none⟩ (.int .i64 x)).heap[g]? = w.heap[g]? := fun g hg => Below.heap_setCell _ _ _ _ hg
 refine ⟨ownsRow_same h.own fun g e => hoth g fun e' => h.far p hp (e' ▸ e), h.vhi, fun k hk => ?_, h.lo, h.hi, h.inj, h.far⟩
 by_cases e : k = p
 ·subst e
  refine ⟨fun j hj => ?_, fun o => by rw [frozen_set]; exact (h.row k hk).fr o, by rw [World.size_setCell]; exact (h.row k hk).lt⟩
  rw [cell_set w (rb k) i j _ ((h.row k hk).c i hi), hf]
  by_cases ej : j = i
  ·rw [if_pos ej, if_pos ⟨rfl, ej⟩]
  ·rw [if_neg ej, if_neg (fun h => ej h.2)]; exact (h.row k hk).c j hj
 ·refine ((h.row k hk).block (by rw [World.size_setCell]; exact Nat.le_refl _) (hoth _ (h.inj k p hk hp e))).congr fun j => ?_
  rw [hf, if_neg (fun h => e h.1)]
def ioMM (g n cap : Nat) (len : Nat → Nat) (rb : Nat → Nat) (f : Nat → Nat → Int) : MM :=
 { n := n, rn := len, val := f, a := some ⟨g, 0, none⟩, b := g, off := 0, cap := cap, ra := fun k => some ⟨rb k, 0, none⟩, rb := rb, ro := fun _ => 0, rc := len }
theorem IoM.mm {wb B n g cap : Nat} {len : Nat → Nat} {rb : Nat → Nat} {f : Nat → Nat → Int} {w : World} (h : IoM wb B n len (.slice (some ⟨g, 0, none⟩) n cap) rb f w) (hn : n ≤ 1000) (hl : ∀ k, k < n → len k ≤ 1000) : (ioMM g n cap len rb f).At w := by
 have hc := h.cell
 refine ⟨by show n ≤ _; omega, fun _ => rfl, fun _ w' x => Nat.lt_of_lt_of_le hc.1 x.le, fun w' x k hk => ?_, fun k hk => by have := hl k hk; show len k ≤ _; omega, fun k _ _ => rfl, fun k hk _ w' x => Nat.lt_of_lt_of_le (h.row k hk).lt x.le, fun w' x k i hk hi => ?_⟩
 ·show w'.cell? ⟨g, 0 + k, none⟩ = _
  rw [Nat.zero_add]; exact x.cell (hc.2 k hk)
 ·show w'.cell? ⟨rb k, 0 + i, none⟩ = _
  rw [Nat.zero_add]; exact x.cell ((h.row k hk).c i hi)
end Go.Proofs.YtmhapcnlpoilpaaGreatDoor

namespace Go.Proofs.YtmhapcnlpoilpaaGreatDoor
open Go.RowKit Go.Shelf
end Go.Proofs.YtmhapcnlpoilpaaGreatDoor

namespace Go.Proofs.YtmhapcnlpoilpaaGreatDoor
open Go.ChangeShapes Go.WideShapes Go.RowKit Go.Deep
section
variable {H : Type} {enc : TypeId × Value → H} {P : Program} {w : World} {base : Nat} {held : Bool}
theorem all_weights_mem {e : TypeId} : ∀ {l : List (DataW H)} {d : DataW H}, d ∈ l → ∀ n ∈ d.weights P e, n ∈ DataW.weightsAll P e l
 | d' :: r, d, hd, n, hn => by
  simp only [DataW.weightsAll, List.mem_append]
  rcases List.mem_cons.1 hd with rfl | h
  ·exact .inl hn
  ·exact .inr (all_weights_mem h n hn)
def Small (P : Program) (t : TypeId) (d : DataW H) : Prop := ∀ n ∈ d.weights P t, n ≤ reachBytes
theorem open_any {t e : TypeId} {fuel : Nat} {cs : List Value} {x : DataW H × List MemPlace} (ht : P.underlying t = some (.slice e)) (hc : 0 < P.cellsOf e)
    (h : DataW.trod enc P w base (fun _ => true) held fuel t cs = some x) (hs : Small P t x.1) :
    ∃ (a : Option Addr) (b off len cap : Nat), cs = [.slice a len cap] ∧ len ≤ cap ∧ len * P.bytesOf e ≤ reachBytes ∧ (0 < len → a = some ⟨b, off, none⟩ ∧ b < w.heap.size) ∧
     ∀ i, i < len → ∃ (cs' : List Value) (n : Nat) (y : DataW H × List MemPlace), cs'.length = P.cellsOf e ∧ (∀ j, j < P.cellsOf e → w.cell? ⟨b, off + (i * P.cellsOf e + j), none⟩ = cs'[j]?) ∧ DataW.trod enc P w base (fun _ => true) held n e cs' = some y ∧ Small P e y.1 := by
 rcases open_slice ht h with ⟨rfl, rfl⟩ | ⟨a, len, cap, m, n, D, Pl, rfl, hb, hl, hm, hmm, rfl, hi⟩
 ·exact ⟨none, 0, 0, 0, 0, rfl, Nat.le_refl _, by simp, fun h => absurd h (Nat.lt_irrefl _), fun i h => absurd h (Nat.not_lt_zero _)⟩
 ·obtain rfl : m = cap := by simpa using hmm
  have hlm : ∀ i, i < len → i < m := fun i h => Nat.lt_of_lt_of_le h hl
  have hcell : ∀ i, i < len → ∀ j, j < P.cellsOf e → ∃ v, w.cell? ((a.add (i * P.cellsOf e)).add j) = some v := fun i hi' j hj => by
   obtain ⟨cs', h1, _⟩ := hi i (hlm i hi')
   obtain ⟨_, h2, h3⟩ := World.cells?_some h1
   exact ⟨cs'[j]'(by omega), by rw [h3 j hj, List.getElem?_eq_getElem]⟩
  have hsp : 0 < len → a.spot = none := fun h0 => by
   obtain ⟨v, hv⟩ := hcell 0 h0 0 hc
   have := World.cell?_spot hv
   simpa [Addr.add] using this
  obtain ⟨b, off, sp⟩ := a
  refine ⟨some ⟨b, off, sp⟩, b, off, len, m, rfl, hl, ?_, fun h0 => ?_, fun i hi' => ?_⟩
  ·have := hs ((((List.range len).map D).length + ((List.range (m - len)).map fun j => D (len + j)).length) * P.bytesOf e) (by simp [DataW.weights, ht])
   simp only [List.length_map, List.length_range] at this
   refine Nat.le_trans (Nat.mul_le_mul_right _ ?_) this
   omega
  ·have h1 : sp = none := hsp h0
   subst h1
   obtain ⟨v, hv⟩ := hcell 0 h0 0 hc
   refine ⟨rfl, ?_⟩
   have := cell_lt hv
   simpa [Addr.add] using this
  ·have h1 : sp = none := hsp (by omega)
   subst h1
   obtain ⟨cs', h1, h2⟩ := hi i (hlm i hi')
   obtain ⟨_, h3, h4⟩ := World.cells?_some h1
   refine ⟨cs', n, (D i, Pl i), h3, fun j hj => ?_, h2, fun x hx => hs x ?_⟩
   ·have := h4 j hj
    rw [add_plain, add_plain, Nat.add_assoc] at this
    exact this
   ·simp only [DataW.weights, ht]
    refine List.mem_cons_of_mem _ (List.mem_append.2 (.inl (all_weights_mem (List.mem_map.2 ⟨i, List.mem_range.2 hi', rfl⟩) x hx)))
theorem open_fields {t : TypeId} {fs : Array Field} {fuel : Nat} {cs : List Value} {x : DataW H × List MemPlace} (ht : P.underlying t = some (.struct fs)) (hone : oneCellFields P fs = true) (hC : P.cellsOf t = fs.size)
    (h : DataW.trod enc P w base (fun _ => true) held fuel t cs = some x) (hs : Small P t x.1) (j : Nat) (f : Field) (hj : fs[j]? = some f) :
    ∃ (v : Value) (n : Nat) (y : DataW H × List MemPlace), cs[j]? = some v ∧ DataW.trod enc P w base (fun _ => true) held n f.type [v] = some y ∧ Small P f.type y.1 := by
 obtain ⟨ys, n, _, rfl, hlen, hyl, hf⟩ := DataW.trod_struct ht h
 obtain ⟨ho, hk⟩ := hone_of hone j f hj
 have hjl : j < fs.size := (Array.getElem?_eq_some_iff.1 hj).1
 have h1 := hf j f hj
 rw [ho, hk] at h1
 have hone' : (cs.drop j).take 1 = [cs[j]'(by omega)] := by
  rw [List.drop_eq_getElem_cons (by omega)]; rfl
 rw [hone', List.getElem?_eq_getElem (show j < ys.length by omega)] at h1
 refine ⟨_, n, _, List.getElem?_eq_getElem (by omega), h1, fun x hx => hs x ?_⟩
 simp only [DataW.weights, ht]
 refine DataW.weights_mem_each (j := j) (t := f.type) (d := (ys[j]'(by omega)).1) ?_ ?_ x hx
 ·rw [List.getElem?_map, Array.getElem?_toList, hj]; rfl
 ·rw [List.getElem?_map, List.getElem?_eq_getElem (show j < ys.length by omega)]; rfl
theorem open_structs {t e : TypeId} {fs : Array Field} {fuel : Nat} {cs : List Value} {x : DataW H × List MemPlace} (ht : P.underlying t = some (.slice e)) (he : P.underlying e = some (.struct fs)) (hone : oneCellFields P fs = true) (hC : P.cellsOf e = fs.size) (h0 : 0 < fs.size)
    (h : DataW.trod enc P w base (fun _ => true) held fuel t cs = some x) (hs : Small P t x.1) :
    ∃ (a : Option Addr) (b off len cap : Nat), cs = [.slice a len cap] ∧ len ≤ cap ∧ len * P.bytesOf e ≤ reachBytes ∧ (0 < len → a = some ⟨b, off, none⟩ ∧ b < w.heap.size) ∧
     ∀ i, i < len → ∀ j f, fs[j]? = some f → ∃ (v : Value) (n : Nat) (y : DataW H × List MemPlace), w.cell? ⟨b, off + i * fs.size + j, none⟩ = some v ∧ DataW.trod enc P w base (fun _ => true) held n f.type [v] = some y ∧ Small P f.type y.1 := by
 obtain ⟨a, b, off, len, cap, h1, h2, h3, h4, h5⟩ := open_any ht (by omega) h hs
 refine ⟨a, b, off, len, cap, h1, h2, h3, h4, fun i hi j f hj => ?_⟩
 obtain ⟨cs', n, y, h6, h7, h8, h9⟩ := h5 i hi
 obtain ⟨v, n', y', h10, h11, h12⟩ := open_fields he hone hC h8 h9 j f hj
 refine ⟨v, n', y', ?_, h11, h12⟩
 have hjl : j < fs.size := (Array.getElem?_eq_some_iff.1 hj).1
 have := h7 j (by omega)
 rw [hC] at this
 rw [Nat.add_assoc, this]; exact h10
theorem small_string {t : TypeId} {s : List UInt8} (h : Small P t (.lit (.string s) : DataW H)) : s.length ≤ reachBytes := h _ (by simp [DataW.weights])
end
end Go.Proofs.YtmhapcnlpoilpaaGreatDoor

namespace Go.Proofs.YtmhapcnlpoilpaaGreatDoor
open Go.ChangeShapes Go.WideShapes Go.RowKit Go.Deep
theorem cellsOf_int : Tryz.prog.cellsOf 3 = 1 := by kernel_rfl
theorem cellsOf_ints : Tryz.prog.cellsOf 25 = 1 := by kernel_rfl
theorem cellsOf_assign : Tryz.prog.cellsOf 179 = 2 := by kernel_rfl
theorem cellsOf_event : Tryz.prog.cellsOf 58 = 5 := by kernel_rfl
theorem cellsOf_var : Tryz.prog.cellsOf 176 = 2 := by kernel_rfl
theorem cellsOf_proc : Tryz.prog.cellsOf 45 = 3 := by kernel_rfl
theorem cellsOf_trace : Tryz.prog.cellsOf 24 = 1 := by kernel_rfl
theorem bytesOf_int : Tryz.prog.bytesOf 3 = 8 := by kernel_rfl
theorem bytesOf_ints : Tryz.prog.bytesOf 25 = 24 := by kernel_rfl
theorem bytesOf_assign : Tryz.prog.bytesOf 179 = 16 := by kernel_rfl
theorem bytesOf_event : Tryz.prog.bytesOf 58 = 56 := by kernel_rfl
theorem bytesOf_var : Tryz.prog.bytesOf 176 = 24 := by kernel_rfl
theorem bytesOf_proc : Tryz.prog.bytesOf 45 = 64 := by kernel_rfl
theorem reach_eq : reachBytes = 140737488351232 := rfl
structure SlD where
 a : Option Addr
 n : Nat
 c : Nat
 b : Nat
 o : Nat
 deriving Inhabited
abbrev SlD.v (s : SlD) : Value := .slice s.a s.n s.c
structure SlD.At (s : SlD) (w : World) : Prop where
 hn : s.n ≤ 140737488355328
 hc : s.n ≤ s.c
 ha : 0 < s.n → s.a = some ⟨s.b, s.o, none⟩
 hb : 0 < s.n → s.b < w.heap.size
structure VarD where
 s : SlD
 nm : Nat → ByteArray
 ini : Nat → Int
instance : Inhabited VarD := ⟨⟨default, fun _ => default, fun _ => 0⟩⟩
structure VarD.At (d : VarD) (w : World) : Prop where
 s : d.s.At w
 c0 : ∀ i, i < d.s.n → w.cell? ⟨d.s.b, d.s.o + i * 2, none⟩ = some (.string (d.nm i)) ∧ (d.nm i).size ≤ 9223372036854775807
 c1 : ∀ i, i < d.s.n → w.cell? ⟨d.s.b, d.s.o + i * 2 + 1, none⟩ = some (.int .i64 (d.ini i)) ∧ okI (d.ini i)
structure AsgD where
 s : SlD
 vr : Nat → Int
 vl : Nat → Int
instance : Inhabited AsgD := ⟨⟨default, fun _ => 0, fun _ => 0⟩⟩
structure AsgD.At (d : AsgD) (w : World) : Prop where
 s : d.s.At w
 c0 : ∀ i, i < d.s.n → w.cell? ⟨d.s.b, d.s.o + i * 2, none⟩ = some (.int .i64 (d.vr i)) ∧ okI (d.vr i)
 c1 : ∀ i, i < d.s.n → w.cell? ⟨d.s.b, d.s.o + i * 2 + 1, none⟩ = some (.int .i64 (d.vl i)) ∧ okI (d.vl i)
structure EvD where
 s : SlD
 k : Nat → Int
 p : Nat → Int
 m : Nat → Int
 t : Nat → Int
 g : Nat → AsgD
instance : Inhabited EvD := ⟨⟨default, fun _ => 0, fun _ => 0, fun _ => 0, fun _ => 0, fun _ => default⟩⟩
structure EvD.At (d : EvD) (w : World) : Prop where
 s : d.s.At w
 c0 : ∀ i, i < d.s.n → w.cell? ⟨d.s.b, d.s.o + i * 5, none⟩ = some (.int .i64 (d.k i)) ∧ okI (d.k i)
 c1 : ∀ i, i < d.s.n → w.cell? ⟨d.s.b, d.s.o + i * 5 + 1, none⟩ = some (.int .i64 (d.p i)) ∧ okI (d.p i)
 c2 : ∀ i, i < d.s.n → w.cell? ⟨d.s.b, d.s.o + i * 5 + 2, none⟩ = some (.int .i64 (d.m i)) ∧ okI (d.m i)
 c3 : ∀ i, i < d.s.n → w.cell? ⟨d.s.b, d.s.o + i * 5 + 3, none⟩ = some (.int .i64 (d.t i)) ∧ okI (d.t i)
 c4 : ∀ i, i < d.s.n → w.cell? ⟨d.s.b, d.s.o + i * 5 + 4, none⟩ = some (d.g i).s.v ∧ (d.g i).At w
section
variable {H : Type} {enc : TypeId × Value → H} {w : World} {base : Nat} {held : Bool} {fuel : Nat} {cs : List Value} {x : DataW H × List MemPlace}
theorem open_okI (h : DataW.trod enc Tryz.prog w base (fun _ => true) held fuel 3 cs = some x) : ∃ n, cs = [.int .i64 n] ∧ okI n := by
 obtain ⟨n, h1, _, h3⟩ := DataW.trod_int Tryz.underlying3 h
 refine ⟨n, h1, ?_⟩
 have e1 : IntKind.i64.min = -9223372036854775808 := by decide +kernel
 have e2 : IntKind.i64.max = 9223372036854775807 := by decide +kernel
 simp only [Lit.wf, Bool.and_eq_true, decide_eq_true_eq, e1, e2] at h3
 exact h3
theorem open_str (h : DataW.trod enc Tryz.prog w base (fun _ => true) held fuel 9 cs = some x) : ∃ n : ByteArray, cs = [.string n] ∧ n.size ≤ 9223372036854775807 := by
 obtain ⟨n, h1, _, h2⟩ := DataW.trod_string Tryz.underlying9 h
 exact ⟨n, h1, h2⟩
theorem SlD.of {a : Option Addr} {b off len cap k : Nat} (h1 : len ≤ cap) (h2 : len * k ≤ reachBytes) (hk : 0 < k) (h3 : 0 < len → a = some ⟨b, off, none⟩ ∧ b < w.heap.size) : (SlD.mk a len cap b off).At w := by
 refine ⟨?_, h1, fun h => (h3 h).1, fun h => (h3 h).2⟩
 have h4 : len * 1 ≤ len * k := Nat.mul_le_mul_left _ hk
 rw [reach_eq] at h2
 show len ≤ _
 omega
theorem open_vars (h : DataW.trod enc Tryz.prog w base (fun _ => true) held fuel 42 cs = some x) (hs : Small Tryz.prog 42 x.1) : ∃ d : VarD, cs = [d.s.v] ∧ d.At w := by
 obtain ⟨a, b, off, len, cap, h1, h2, h3, h4, h5⟩ := open_structs Tryz.underlying42 Tryz.underlying176 (by kernel_rfl) cellsOf_var (by decide) h hs
 rw [bytesOf_var] at h3
 have f0 := choose_lt (p := fun i (y : ByteArray) => w.cell? ⟨b, off + i * 2, none⟩ = some (.string y) ∧ y.size ≤ 9223372036854775807) fun i hi => by
  obtain ⟨v, n, y, q1, q2, q3⟩ := h5 i hi 0 _ rfl
  obtain ⟨z, e, hz⟩ := open_str q2
  simp only [List.cons.injEq, and_true] at e; subst e
  exact ⟨z, q1, hz⟩
 have f1 := choose_lt (p := fun i (y : Int) => w.cell? ⟨b, off + i * 2 + 1, none⟩ = some (.int .i64 y) ∧ okI y) fun i hi => by
  obtain ⟨v, n, y, q1, q2, q3⟩ := h5 i hi 1 _ rfl
  obtain ⟨z, e, hz⟩ := open_okI q2
  simp only [List.cons.injEq, and_true] at e; subst e
  exact ⟨z, q1, hz⟩
 obtain ⟨f0, g0⟩ := f0
 obtain ⟨f1, g1⟩ := f1
 exact ⟨⟨⟨a, len, cap, b, off⟩, f0, f1⟩, h1, ⟨SlD.of h2 h3 (by decide) h4, g0, g1⟩⟩
theorem open_asgs (h : DataW.trod enc Tryz.prog w base (fun _ => true) held fuel 56 cs = some x) (hs : Small Tryz.prog 56 x.1) : ∃ d : AsgD, cs = [d.s.v] ∧ d.At w := by
 obtain ⟨a, b, off, len, cap, h1, h2, h3, h4, h5⟩ := open_structs Tryz.underlying56 Tryz.underlying179 (by kernel_rfl) cellsOf_assign (by decide) h hs
 rw [bytesOf_assign] at h3
 have f0 := choose_lt (p := fun i (y : Int) => w.cell? ⟨b, off + i * 2, none⟩ = some (.int .i64 y) ∧ okI y) fun i hi => by
  obtain ⟨v, n, y, q1, q2, q3⟩ := h5 i hi 0 _ rfl
  obtain ⟨z, e, hz⟩ := open_okI q2
  simp only [List.cons.injEq, and_true] at e; subst e
  exact ⟨z, q1, hz⟩
 have f1 := choose_lt (p := fun i (y : Int) => w.cell? ⟨b, off + i * 2 + 1, none⟩ = some (.int .i64 y) ∧ okI y) fun i hi => by
  obtain ⟨v, n, y, q1, q2, q3⟩ := h5 i hi 1 _ rfl
  obtain ⟨z, e, hz⟩ := open_okI q2
  simp only [List.cons.injEq, and_true] at e; subst e
  exact ⟨z, q1, hz⟩
 obtain ⟨f0, g0⟩ := f0
 obtain ⟨f1, g1⟩ := f1
 exact ⟨⟨⟨a, len, cap, b, off⟩, f0, f1⟩, h1, ⟨SlD.of h2 h3 (by decide) h4, g0, g1⟩⟩
theorem open_evs (h : DataW.trod enc Tryz.prog w base (fun _ => true) held fuel 43 cs = some x) (hs : Small Tryz.prog 43 x.1) : ∃ d : EvD, cs = [d.s.v] ∧ d.At w := by
 obtain ⟨a, b, off, len, cap, h1, h2, h3, h4, h5⟩ := open_structs Tryz.underlying43 Tryz.underlying58 (by kernel_rfl) cellsOf_event (by decide) h hs
 rw [bytesOf_event] at h3
 have f0 := choose_lt (p := fun i (y : Int) => w.cell? ⟨b, off + i * 5 , none⟩ = some (.int .i64 y) ∧ okI y) fun i hi => by
  obtain ⟨v, n, y, q1, q2, q3⟩ := h5 i hi 0 _ rfl
  obtain ⟨z, e, hz⟩ := open_okI q2
  simp only [List.cons.injEq, and_true] at e; subst e
  exact ⟨z, q1, hz⟩
 have f1 := choose_lt (p := fun i (y : Int) => w.cell? ⟨b, off + i * 5 + 1, none⟩ = some (.int .i64 y) ∧ okI y) fun i hi => by
  obtain ⟨v, n, y, q1, q2, q3⟩ := h5 i hi 1 _ rfl
  obtain ⟨z, e, hz⟩ := open_okI q2
  simp only [List.cons.injEq, and_true] at e; subst e
  exact ⟨z, q1, hz⟩
 have f2 := choose_lt (p := fun i (y : Int) => w.cell? ⟨b, off + i * 5 + 2, none⟩ = some (.int .i64 y) ∧ okI y) fun i hi => by
  obtain ⟨v, n, y, q1, q2, q3⟩ := h5 i hi 2 _ rfl
  obtain ⟨z, e, hz⟩ := open_okI q2
  simp only [List.cons.injEq, and_true] at e; subst e
  exact ⟨z, q1, hz⟩
 have f3 := choose_lt (p := fun i (y : Int) => w.cell? ⟨b, off + i * 5 + 3, none⟩ = some (.int .i64 y) ∧ okI y) fun i hi => by
  obtain ⟨v, n, y, q1, q2, q3⟩ := h5 i hi 3 _ rfl
  obtain ⟨z, e, hz⟩ := open_okI q2
  simp only [List.cons.injEq, and_true] at e; subst e
  exact ⟨z, q1, hz⟩
 have f4 := choose_lt (p := fun i (y : AsgD) => w.cell? ⟨b, off + i * 5 + 4, none⟩ = some y.s.v ∧ y.At w) fun i hi => by
  obtain ⟨v, n, y, q1, q2, q3⟩ := h5 i hi 4 _ rfl
  obtain ⟨z, e, hz⟩ := open_asgs q2 q3
  simp only [List.cons.injEq, and_true] at e; subst e
  exact ⟨z, q1, hz⟩
 obtain ⟨f0, g0⟩ := f0
 obtain ⟨f1, g1⟩ := f1
 obtain ⟨f2, g2⟩ := f2
 obtain ⟨f3, g3⟩ := f3
 obtain ⟨f4, g4⟩ := f4
 exact ⟨⟨⟨a, len, cap, b, off⟩, f0, f1, f2, f3, f4⟩, h1, ⟨SlD.of h2 h3 (by decide) h4, g0, g1, g2, g3, g4⟩⟩
theorem open_trace (h : DataW.trod enc Tryz.prog w base (fun _ => true) held fuel 24 cs = some x) (hs : Small Tryz.prog 24 x.1) : ∃ T : TM, cs = [T.sl] ∧ T.At w := by
 obtain ⟨vt, n1, y1, h0, h1, hs1⟩ := open_fields Tryz.underlying24 (by kernel_rfl) cellsOf_trace h hs 0 _ rfl
 obtain ⟨_, _, _, _, hlen, _, _⟩ := DataW.trod_struct Tryz.underlying24 h
 rw [cellsOf_trace] at hlen
 obtain ⟨vc, rfl⟩ := List.length_eq_one_iff.1 hlen
 obtain rfl : vc = vt := by simpa using h0
 obtain ⟨a, b, off, len, cap, e1, h2, h3, h4, h5⟩ := open_structs Tryz.underlying22 Tryz.underlying45 (by kernel_rfl) cellsOf_proc (by decide) h1 hs1
 rw [bytesOf_proc] at h3
 have f0 := choose_lt (p := fun i (y : ByteArray) => w.cell? ⟨b, off + i * 3, none⟩ = some (.string y) ∧ y.size ≤ 9223372036854775807) fun i hi => by
  obtain ⟨v, n, y, q1, q2, q3⟩ := h5 i hi 0 _ rfl
  obtain ⟨z, e, hz⟩ := open_str q2
  simp only [List.cons.injEq, and_true] at e; subst e
  exact ⟨z, q1, hz⟩
 have f1 := choose_lt (p := fun i (y : VarD) => w.cell? ⟨b, off + i * 3 + 1, none⟩ = some y.s.v ∧ y.At w) fun i hi => by
  obtain ⟨v, n, y, q1, q2, q3⟩ := h5 i hi 1 _ rfl
  obtain ⟨z, e, hz⟩ := open_vars q2 q3
  simp only [List.cons.injEq, and_true] at e; subst e
  exact ⟨z, q1, hz⟩
 have f2 := choose_lt (p := fun i (y : EvD) => w.cell? ⟨b, off + i * 3 + 2, none⟩ = some y.s.v ∧ y.At w) fun i hi => by
  obtain ⟨v, n, y, q1, q2, q3⟩ := h5 i hi 2 _ rfl
  obtain ⟨z, e, hz⟩ := open_evs q2 q3
  simp only [List.cons.injEq, and_true] at e; subst e
  exact ⟨z, q1, hz⟩
 obtain ⟨f0, g0⟩ := f0
 obtain ⟨f1, g1⟩ := f1
 obtain ⟨f2, g2⟩ := f2
 have hS := SlD.of h2 h3 (by decide) h4
 refine ⟨{ n := len, name := f0, vn := fun k => (f1 k).s.n, vname := fun k => (f1 k).nm, vinit := fun k => (f1 k).ini, en := fun k => (f2 k).s.n, kind := fun k => (f2 k).k, peer := fun k => (f2 k).p, msg := fun k => (f2 k).m, time := fun k => (f2 k).t, an := fun k i => ((f2 k).g i).s.n, avar := fun k i => ((f2 k).g i).vr, aval := fun k i => ((f2 k).g i).vl, a := a, b := b, off := off, cap := cap, va := fun k => (f1 k).s.a, vb := fun k => (f1 k).s.b, vo := fun k => (f1 k).s.o, vc := fun k => (f1 k).s.c, ea := fun k => (f2 k).s.a, eb := fun k => (f2 k).s.b, eo := fun k => (f2 k).s.o, ec := fun k => (f2 k).s.c, aa := fun k i => ((f2 k).g i).s.a, ab := fun k i => ((f2 k).g i).s.b, ao := fun k i => ((f2 k).g i).s.o, ac := fun k i => ((f2 k).g i).s.c }, e1, ?_⟩
 constructor
 ·exact ⟨hS.hn, h2, fun h => (h4 h).1, fun h w' x => Nat.lt_of_lt_of_le (h4 h).2 x.le, fun w' x k hk => x.cell (g0 k hk).1, fun w' x k hk => x.cell (g1 k hk).1, fun w' x k hk => x.cell (g2 k hk).1⟩
 ·exact ⟨fun k hk => (g1 k hk).2.s.hn, fun k hk => (g1 k hk).2.s.hc, fun k hk h => (g1 k hk).2.s.ha h, fun k hk h w' x => Nat.lt_of_lt_of_le ((g1 k hk).2.s.hb h) x.le, fun w' x k i hk hi => x.cell ((g1 k hk).2.c0 i hi).1, fun w' x k i hk hi => x.cell ((g1 k hk).2.c1 i hi).1⟩
 ·exact ⟨fun k hk => (g2 k hk).2.s.hn, fun k hk => (g2 k hk).2.s.hc, fun k hk h => (g2 k hk).2.s.ha h, fun k hk h w' x => Nat.lt_of_lt_of_le ((g2 k hk).2.s.hb h) x.le, fun w' x k i hk hi => x.cell ((g2 k hk).2.c0 i hi).1, fun w' x k i hk hi => x.cell ((g2 k hk).2.c1 i hi).1, fun w' x k i hk hi => x.cell ((g2 k hk).2.c2 i hi).1, fun w' x k i hk hi => x.cell ((g2 k hk).2.c3 i hi).1, fun w' x k i hk hi => x.cell ((g2 k hk).2.c4 i hi).1⟩
 ·exact ⟨fun k i hk hi => ((g2 k hk).2.c4 i hi).2.s.hn, fun k i hk hi => ((g2 k hk).2.c4 i hi).2.s.hc, fun k i hk hi h => ((g2 k hk).2.c4 i hi).2.s.ha h, fun k i hk hi h w' x => Nat.lt_of_lt_of_le (((g2 k hk).2.c4 i hi).2.s.hb h) x.le, fun w' x k i j hk hi hj => x.cell (((g2 k hk).2.c4 i hi).2.c0 j hj).1, fun w' x k i j hk hi hj => x.cell (((g2 k hk).2.c4 i hi).2.c1 j hj).1⟩
 ·exact ⟨fun k hk => (g0 k hk).2, fun k i hk hi => ((g1 k hk).2.c0 i hi).2, fun k i hk hi => ((g1 k hk).2.c1 i hi).2, fun k i hk hi => ((g2 k hk).2.c0 i hi).2, fun k i hk hi => ((g2 k hk).2.c1 i hi).2, fun k i hk hi => ((g2 k hk).2.c2 i hi).2, fun k i hk hi => ((g2 k hk).2.c3 i hi).2,
    fun k i j hk hi hj => (((g2 k hk).2.c4 i hi).2.c0 j hj).2, fun k i j hk hi hj => (((g2 k hk).2.c4 i hi).2.c1 j hj).2⟩
structure IntD where
 s : SlD
 z : Nat → Int
instance : Inhabited IntD := ⟨⟨default, fun _ => 0⟩⟩
structure IntD.At (d : IntD) (w : World) : Prop where
 s : d.s.At w
 c : ∀ i, i < d.s.n → w.cell? ⟨d.s.b, d.s.o + i, none⟩ = some (.int .i64 (d.z i)) ∧ okI (d.z i)
theorem open_nums (h : DataW.trod enc Tryz.prog w base (fun _ => true) held fuel 25 cs = some x) (hs : Small Tryz.prog 25 x.1) : ∃ d : IntD, cs = [d.s.v] ∧ d.At w := by
 obtain ⟨a, b, off, len, cap, h1, h2, h3, h4, h5⟩ := open_any Tryz.underlying25 (by rw [cellsOf_int]; decide) h hs
 rw [bytesOf_int] at h3
 have f0 := choose_lt (p := fun i (y : Int) => w.cell? ⟨b, off + i, none⟩ = some (.int .i64 y) ∧ okI y) fun i hi => by
  obtain ⟨cs', n, y, q0, q1, q2, q3⟩ := h5 i hi
  obtain ⟨z, e, hz⟩ := open_okI q2
  subst e
  have := q1 0 (by rw [cellsOf_int]; decide)
  rw [cellsOf_int] at this
  simp only [Nat.mul_one, Nat.add_zero] at this
  exact ⟨z, this, hz⟩
 obtain ⟨f0, g0⟩ := f0
 exact ⟨⟨⟨a, len, cap, b, off⟩, f0⟩, h1, ⟨SlD.of h2 h3 (by decide) h4, g0⟩⟩
theorem open_mm (h : DataW.trod enc Tryz.prog w base (fun _ => true) held fuel 28 cs = some x) (hs : Small Tryz.prog 28 x.1) : ∃ M : MM, cs = [M.v] ∧ M.At w ∧ (∀ k i, k < M.n → i < M.rn k → okI (M.val k i)) ∧ (M.n ≤ M.cap) ∧ (∀ k, k < M.n → M.rn k ≤ M.rc k) := by
 obtain ⟨a, b, off, len, cap, h1, h2, h3, h4, h5⟩ := open_any Tryz.underlying28 (by rw [cellsOf_ints]; decide) h hs
 rw [bytesOf_ints] at h3
 have f0 := choose_lt (p := fun i (y : IntD) => w.cell? ⟨b, off + i, none⟩ = some y.s.v ∧ y.At w) fun i hi => by
  obtain ⟨cs', n, y, q0, q1, q2, q3⟩ := h5 i hi
  obtain ⟨z, e, hz⟩ := open_nums q2 q3
  subst e
  have := q1 0 (by rw [cellsOf_ints]; decide)
  rw [cellsOf_ints] at this
  simp only [Nat.mul_one, Nat.add_zero] at this
  exact ⟨z, this, hz⟩
 obtain ⟨f0, g0⟩ := f0
 have hS := SlD.of h2 h3 (by decide) h4
 refine ⟨{ n := len, rn := fun k => (f0 k).s.n, val := fun k => (f0 k).z, a := a, b := b, off := off, cap := cap, ra := fun k => (f0 k).s.a, rb := fun k => (f0 k).s.b, ro := fun k => (f0 k).s.o, rc := fun k => (f0 k).s.c }, h1, ?_, fun k i hk hi => ((g0 k hk).2.c i hi).2, h2, fun k hk => (g0 k hk).2.s.hc⟩
 exact ⟨hS.hn, fun h => (h4 h).1, fun h w' x => Nat.lt_of_lt_of_le (h4 h).2 x.le, fun w' x k hk => x.cell (g0 k hk).1, fun k hk => (g0 k hk).2.s.hn, fun k hk h => (g0 k hk).2.s.ha h, fun k hk h w' x => Nat.lt_of_lt_of_le ((g0 k hk).2.s.hb h) x.le, fun w' x k i hk hi => x.cell ((g0 k hk).2.c i hi).1⟩
end
end Go.Proofs.YtmhapcnlpoilpaaGreatDoor

namespace Go.Proofs.YtmhapcnlpoilpaaGreatDoor
open Go.ChangeShapes Go.WideShapes Go.ChangeAt Go.RowKit
theorem exists_bool (p : Prop) : ∃ b : Bool, b = true ↔ p := by
 classical
 exact ⟨decide p, decide_eq_true_iff⟩
theorem own14 : ownKnob Tryz.prog.godebug = none := by kernel_rfl
theorem laid14 : laidOutB Tryz.prog = true := by kernel_rfl
theorem post_ext1 {H : Type} {enc : TypeId × Value → H} {P : Program} {f : Func} {s : ChangeSpec} {apart fresh handsOn : Bool} {W W' : World} {args : Array Value} {v : Value} {ds gs : List (DataW H)} {before pa pv : List MemPlace}
    (hW : DataW.Whole enc P f.params.toList s.vars apart W args.toList ds gs before)
    (hres : ∀ (b : Nat) (sp : Nat → Bool) (hd : Bool), DataW.TrodAll enc P W' b sp hd f.resultTypes.toList (v.resultList f.resultTypes.size) (s.fn H (ds ++ gs)).results [])
    (hargs : DataW.TrodAll enc P W' 0 (fun b => decide (b < W.heap.size)) true f.params.toList args.toList (s.fn H (ds ++ gs)).args pa)
    (hvars : DataW.TrodVars enc P W' (fun b => decide (b < W.heap.size)) s.vars (s.fn H (ds ++ gs)).vars pv)
    (hx : Ext W W') : s.post enc P f apart fresh handsOn false W args v W' :=
 ⟨ds, gs, before, [], pa, pv, hW, hres _ _ _, hargs, hvars, hx.below.frame _, fun h => by cases h⟩
section
variable {H : Type} {enc : TypeId × Value → H} {W : World}
theorem small_of {P : Program} {ts : List TypeId} {ds : List (DataW H)} (h : (DataW.weightsEach P ts ds).all (· ≤ reachBytes) = true) {j : Nat} {t : TypeId} {d : DataW H} (ht : ts[j]? = some t) (hd : ds[j]? = some d) : Small P t d :=
 fun n hn => of_decide_eq_true (List.all_eq_true.1 h _ (DataW.weights_mem_each ht hd n hn))
set_option maxRecDepth 100000 in
theorem arg_trace {r : Reach} {b0 : Nat} {v : Value} {d : DataW H} {p : List MemPlace} (hv : Value.okWide Tryz.prog W r b0 24 v) (h : DataW.Trod enc Tryz.prog W 0 (fun _ => true) true 24 v d p) (hs : Small Tryz.prog 24 d) : ∃ T : TM, v = T.val ∧ T.At W := by
 obtain ⟨cs, rfl, _⟩ := okWide_struct Tryz.underlying24 hv
 obtain ⟨fuel, hf⟩ := h
 obtain ⟨T, e, hT⟩ := open_trace (x := (d, p)) hf hs
 refine ⟨T, ?_, hT⟩
 obtain ⟨l⟩ := cs
 have e : l = [T.sl] := by simpa [Value.cells] using e
 rw [e]
set_option maxRecDepth 100000 in
theorem arg_mm {r : Reach} {b0 : Nat} {v : Value} {d : DataW H} {p : List MemPlace} (hv : Value.okWide Tryz.prog W r b0 28 v) (h : DataW.Trod enc Tryz.prog W 0 (fun _ => true) true 28 v d p) (hs : Small Tryz.prog 28 d) :
    ∃ M : MM, v = .slice M.a M.n M.cap ∧ M.At W ∧ (∀ k i, k < M.n → i < M.rn k → okI (M.val k i)) ∧ M.n ≤ M.cap ∧ ∀ k, k < M.n → M.rn k ≤ M.rc k := by
 obtain ⟨a0, len, cap, rfl⟩ := okWide_slice Tryz.underlying28 hv
 obtain ⟨fuel, hf⟩ := h
 obtain ⟨M, e, hM⟩ := open_mm (x := (d, p)) hf hs
 refine ⟨M, ?_, hM⟩
 simpa [Value.cells] using e
end
end Go.Proofs.YtmhapcnlpoilpaaGreatDoor

namespace Go.Proofs.YtmhapcnlpoilpaaGreatDoor
open Go.RowKit Go.Shelf
def Tr.Bef (T : Tr) (x y : NN) : Prop := x ≠ y ∧ T.Past y x
set_option maxRecDepth 100000 in
set_option maxHeartbeats 400000 in
theorem before_any (w : World) (T : TM) (hT : T.At w) (hV : T.toTr.Valid) (x y : NN) (hx : T.toTr.V x) (hy : T.toTr.V y) (bs br : Nat) (hK : KnAt T bs br w) :
    Calls Tryz.prog 47 #[T.kn bs br, .agg #[.int .i64 x.1, .int .i64 (x.2 + 1)], .agg #[.int .i64 y.1, .int .i64 (y.2 + 1)]] w (BoolPost (T.toTr.Bef x y) w) := by
 have pa := hT.P.pa (by have := hx.1; omega)
 have hn8 := hV.n8
 have hP := fun W (h : Ext w W) => past_any W T (hT.ext h) hV y hy bs br (hK.ext h)
 simp only [TM.kn, pa] at hP
 obtain ⟨xp, xi⟩ := x
 obtain ⟨yp, yi⟩ := y
 have hxp : xp < T.n := hx.1
 have hxe : xi < T.en xp := hx.2
 have hen : T.en xp ≤ 64 := (hV.pr xp hxp).2.2.2.2
 have hxp' : (xp : Int) < (T.n : Int) := by omega
 dsimp only at hP ⊢
 have HP := Lib.hid hP
 clear hT hV hK hP hx hy
 go_enter Tryz.func47, Tryz.ntmps47
 go_upto_region 1 with fail
 refine boxed3 (w := w) (G := fun x => Code.wp _ _ _ _ x) ?_
 intro w1 hx1 hs1 ⟨l0, c0, _, _⟩ ⟨l1, c1, _, _⟩ ⟨l2, c2, _, _⟩
 have hx11 : Ext w1 w1 := Ext.refl _
 clear hs1
 by_cases hxy : (xp, xi) = (yp, yi)
 ·have e1 : xp = yp := congrArg Prod.fst hxy
  have e2 : xi = yi := congrArg Prod.snd hxy
  subst e1 e2
  clear hxy
  go_quiet (fail)
  go_wp2_with fail
  go_ret
  exact BoolPost.no (fun h => h.1 rfl) (hx1.drewN _)
 ·have HXY := Lib.hid hxy
  have hb0 : (xp : Int) = (yp : Int) → ¬ (xi : Int) = (yi : Int) := fun h1 h2 => hxy (by rw [show xp = yp by omega, show xi = yi by omega])
  by_cases hpp : xp = yp
  ·have hb1 : ((xp : Int) == (yp : Int)) = true := by simp; omega
   have hb2 : ((xi : Int) == (yi : Int)) = false := by simp; exact fun h => hb0 (by omega) (by omega)
   have hb3 : ((xi : Int) + 1 == (yi : Int) + 1) = false := by simp; exact fun h => hb0 (by omega) (by omega)
   clear hb0 hxy hpp
   refine wp_region_held_drew (S := fun w' => Ext w1 w') (by kernel_rfl) (Ext.refl w1).drew (fun hHeld => ?_)
   refine heldTake 0 (v := ?_) rfl (by kernel_rfl) (by kernel_rfl) (by kernel_rfl) (fun _ _ _ h => h) (Or.inl ⟨by rfl, ?_⟩) (by assumption) ?_
   rotate_left
   ·(intro w' hSw; (try dsimp only at hSw); go_simp; try with_reducible rfl)
   simp only [Act.put, List.setIfInBounds_toArray, List.set_cons_zero, List.set_cons_succ]
   refine heldTake 1 (v := ?_) rfl (by kernel_rfl) (by kernel_rfl) (by kernel_rfl) (fun _ _ _ h => h) (Or.inl ⟨by rfl, ?_⟩) (by assumption) ?_
   rotate_left
   ·(intro w' hSw; (try dsimp only at hSw); go_simp; try with_reducible rfl)
   simp only [Act.put, List.setIfInBounds_toArray, List.set_cons_zero, List.set_cons_succ]
   refine heldTake 2 (v := ?_) rfl (by kernel_rfl) (by kernel_rfl) (by kernel_rfl) (fun _ _ _ h => h) (Or.inl ⟨by rfl, ?_⟩) (by assumption) ?_
   rotate_left
   ·(intro w' hSw; (try dsimp only at hSw); go_simp; try with_reducible rfl)
   simp only [Act.put, List.setIfInBounds_toArray, List.set_cons_zero, List.set_cons_succ]
   refine heldTake 3 (v := ?_) rfl (by kernel_rfl) (by kernel_rfl) (by kernel_rfl) (fun _ _ _ h => h) (Or.inl ⟨by rfl, ?_⟩) (by assumption) ?_
   rotate_left
   ·(intro w' hSw; (try dsimp only at hSw); go_simp; try with_reducible rfl)
   simp only [Act.put, List.setIfInBounds_toArray, List.set_cons_zero, List.set_cons_succ]
   refine heldTake 4 (v := ?_) rfl (by kernel_rfl) (by kernel_rfl) (by kernel_rfl) (fun _ _ _ h => h) (Or.inl ⟨by rfl, ?_⟩) (by assumption) ?_
   rotate_left
   ·(intro w' hSw; (try dsimp only at hSw); go_simp; try with_reducible rfl)
   simp only [Act.put, List.setIfInBounds_toArray, List.set_cons_zero, List.set_cons_succ]
   refine heldTake 5 (v := ?_) rfl (by kernel_rfl) (by kernel_rfl) (by kernel_rfl) (fun _ _ _ h => h) (Or.inl ⟨by rfl, ?_⟩) (by assumption) ?_
   rotate_left
   ·(intro w' hSw; (try dsimp only at hSw); go_simp; try with_reducible rfl)
   simp only [Act.put, List.setIfInBounds_toArray, List.set_cons_zero, List.set_cons_succ]
   refine heldTake 7 (v := ?_) rfl (by kernel_rfl) (by kernel_rfl) (by kernel_rfl) (fun _ _ _ h => h) (Or.inl ⟨by rfl, ?_⟩) (by assumption) ?_
   rotate_left
   ·(intro w' hSw; (try dsimp only at hSw); go_simp; try with_reducible rfl)
   simp only [Act.put, List.setIfInBounds_toArray, List.set_cons_zero, List.set_cons_succ]
   refine heldTake 8 (v := ?_) rfl (by kernel_rfl) (by kernel_rfl) (by kernel_rfl) (fun _ _ _ h => h) (Or.inl ⟨by rfl, ?_⟩) (by assumption) ?_
   rotate_left
   ·(intro w' hSw; (try dsimp only at hSw); go_simp; try with_reducible rfl)
   simp only [Act.put, List.setIfInBounds_toArray, List.set_cons_zero, List.set_cons_succ]
   refine heldTake 11 (v := ?_) rfl (by kernel_rfl) (by kernel_rfl) (by kernel_rfl) (fun _ _ _ h => h) (Or.inl ⟨by rfl, ?_⟩) (by assumption) ?_
   rotate_left
   ·(intro w' hSw; (try dsimp only at hSw); go_simp; try with_reducible rfl)
   simp only [Act.put, List.setIfInBounds_toArray, List.set_cons_zero, List.set_cons_succ]
   refine heldTake 12 (v := ?_) rfl (by kernel_rfl) (by kernel_rfl) (by kernel_rfl) (fun _ _ _ h => h) (Or.inl ⟨by rfl, ?_⟩) (by assumption) ?_
   rotate_left
   ·(intro w' hSw; (try dsimp only at hSw); go_simp; try with_reducible rfl)
   simp only [Act.put, List.setIfInBounds_toArray, List.set_cons_zero, List.set_cons_succ]
   refine wpAnyH_ready (rs := [6]) (by kernel_rfl) (by simp) ?_
   refine AllReadyH.cons rfl (fun K hK => ?_) AllReadyH.nil
   go_simp
   go_at_call 98
   refine (HP.out _ hx1.drew).mono ?_
   rintro e w5 ⟨hx5, cg, c, rfl, hcg, hcr, hpc⟩
   have hS5 : Ext w1 w5 := (Ext.refl w1).drew.trans hx5
   have hc5 := hcr.c xp hxp
   have hl5 := hcr.lt
   have HPC := Lib.hid hpc
   clear hcr hpc hcg
   refine hK.out _ _ hS5 (fun hHeld2 => ?_)
   clear hK K
   try simp only [Act.put, List.setIfInBounds_toArray, List.set_cons_zero, List.set_cons_succ]
   refine heldTake 9 (v := ?_) rfl (by kernel_rfl) (by kernel_rfl) (by kernel_rfl) (fun _ _ _ h => h) (Or.inl ⟨by rfl, ?_⟩) (by assumption) ?_
   rotate_left
   ·(intro w' hSw; (try dsimp only at hSw); go_simp; try with_reducible rfl)
   simp only [Act.put, List.setIfInBounds_toArray, List.set_cons_zero, List.set_cons_succ]
   refine wpAnyH_ready (rs := [10]) (by kernel_rfl) (by simp) ?_
   refine AllReadyH.cons rfl (fun K hK => ?_) AllReadyH.nil
   go_simp
   refine hK.out _ _ hS5 (fun hHeld3 => ?_)
   clear hK K
   try simp only [Act.put, List.setIfInBounds_toArray, List.set_cons_zero, List.set_cons_succ]
   refine heldTake 13 (v := ?_) rfl (by kernel_rfl) (by kernel_rfl) (by kernel_rfl) (fun _ _ _ h => h) (Or.inl ⟨by rfl, ?_⟩) (by assumption) ?_
   rotate_left
   ·(intro w' hSw; (try dsimp only at hSw); go_simp; try with_reducible rfl)
   simp only [Act.put, List.setIfInBounds_toArray, List.set_cons_zero, List.set_cons_succ]
   refine heldTake 14 (v := ?_) rfl (by kernel_rfl) (by kernel_rfl) (by kernel_rfl) (fun _ _ _ h => h) (Or.inl ⟨by rfl, ?_⟩) (by assumption) ?_
   rotate_left
   ·(intro w' hSw; (try dsimp only at hSw); go_simp; try with_reducible rfl)
   simp only [Act.put, List.setIfInBounds_toArray, List.set_cons_zero, List.set_cons_succ]
   refine heldTake 15 (v := ?_) rfl (by kernel_rfl) (by kernel_rfl) (by kernel_rfl) (fun _ _ _ h => h) (Or.inl ⟨by rfl, ?_⟩) (by assumption) ?_
   rotate_left
   ·(intro w' hSw; (try dsimp only at hSw); go_simp; try with_reducible rfl)
   simp only [Act.put, List.setIfInBounds_toArray, List.set_cons_zero, List.set_cons_succ]
   refine wpAnyH_done (by kernel_rfl) ?_ _
   simp only [Exit.then]
   clear hHeld hHeld2 hHeld3 hc5 hl5
   go_wp2_with fail
   go_ret
   refine ⟨_, rfl, ?_, hx1.trans hS5⟩
   rw [decide_eq_true_iff]
   refine Iff.trans ?_ (and_iff_right HXY.out).symm
   refine Iff.trans ?_ (HPC.out.2 xp xi hxp)
   omega
  ·have hb1 : ((xp : Int) == (yp : Int)) = false := by simp; omega
   clear hb0 hxy hpp
   refine wp_region_held_drew (S := fun w' => Ext w1 w') (by kernel_rfl) (Ext.refl w1).drew (fun hHeld => ?_)
   refine heldTake 0 (v := ?_) rfl (by kernel_rfl) (by kernel_rfl) (by kernel_rfl) (fun _ _ _ h => h) (Or.inl ⟨by rfl, ?_⟩) (by assumption) ?_
   rotate_left
   ·(intro w' hSw; (try dsimp only at hSw); go_simp; try with_reducible rfl)
   simp only [Act.put, List.setIfInBounds_toArray, List.set_cons_zero, List.set_cons_succ]
   refine heldTake 1 (v := ?_) rfl (by kernel_rfl) (by kernel_rfl) (by kernel_rfl) (fun _ _ _ h => h) (Or.inl ⟨by rfl, ?_⟩) (by assumption) ?_
   rotate_left
   ·(intro w' hSw; (try dsimp only at hSw); go_simp; try with_reducible rfl)
   simp only [Act.put, List.setIfInBounds_toArray, List.set_cons_zero, List.set_cons_succ]
   refine heldTake 2 (v := ?_) rfl (by kernel_rfl) (by kernel_rfl) (by kernel_rfl) (fun _ _ _ h => h) (Or.inl ⟨by rfl, ?_⟩) (by assumption) ?_
   rotate_left
   ·(intro w' hSw; (try dsimp only at hSw); go_simp; try with_reducible rfl)
   simp only [Act.put, List.setIfInBounds_toArray, List.set_cons_zero, List.set_cons_succ]
   refine heldTake 3 (v := ?_) rfl (by kernel_rfl) (by kernel_rfl) (by kernel_rfl) (fun _ _ _ h => h) (Or.inl ⟨by rfl, ?_⟩) (by assumption) ?_
   rotate_left
   ·(intro w' hSw; (try dsimp only at hSw); go_simp; try with_reducible rfl)
   simp only [Act.put, List.setIfInBounds_toArray, List.set_cons_zero, List.set_cons_succ]
   refine heldTake 4 (v := ?_) rfl (by kernel_rfl) (by kernel_rfl) (by kernel_rfl) (fun _ _ _ h => h) (Or.inl ⟨by rfl, ?_⟩) (by assumption) ?_
   rotate_left
   ·(intro w' hSw; (try dsimp only at hSw); go_simp; try with_reducible rfl)
   simp only [Act.put, List.setIfInBounds_toArray, List.set_cons_zero, List.set_cons_succ]
   refine heldTake 5 (v := ?_) rfl (by kernel_rfl) (by kernel_rfl) (by kernel_rfl) (fun _ _ _ h => h) (Or.inl ⟨by rfl, ?_⟩) (by assumption) ?_
   rotate_left
   ·(intro w' hSw; (try dsimp only at hSw); go_simp; try with_reducible rfl)
   simp only [Act.put, List.setIfInBounds_toArray, List.set_cons_zero, List.set_cons_succ]
   refine heldTake 7 (v := ?_) rfl (by kernel_rfl) (by kernel_rfl) (by kernel_rfl) (fun _ _ _ h => h) (Or.inl ⟨by rfl, ?_⟩) (by assumption) ?_
   rotate_left
   ·(intro w' hSw; (try dsimp only at hSw); go_simp; try with_reducible rfl)
   simp only [Act.put, List.setIfInBounds_toArray, List.set_cons_zero, List.set_cons_succ]
   refine heldTake 8 (v := ?_) rfl (by kernel_rfl) (by kernel_rfl) (by kernel_rfl) (fun _ _ _ h => h) (Or.inl ⟨by rfl, ?_⟩) (by assumption) ?_
   rotate_left
   ·(intro w' hSw; (try dsimp only at hSw); go_simp; try with_reducible rfl)
   simp only [Act.put, List.setIfInBounds_toArray, List.set_cons_zero, List.set_cons_succ]
   refine heldTake 11 (v := ?_) rfl (by kernel_rfl) (by kernel_rfl) (by kernel_rfl) (fun _ _ _ h => h) (Or.inl ⟨by rfl, ?_⟩) (by assumption) ?_
   rotate_left
   ·(intro w' hSw; (try dsimp only at hSw); go_simp; try with_reducible rfl)
   simp only [Act.put, List.setIfInBounds_toArray, List.set_cons_zero, List.set_cons_succ]
   refine heldTake 12 (v := ?_) rfl (by kernel_rfl) (by kernel_rfl) (by kernel_rfl) (fun _ _ _ h => h) (Or.inl ⟨by rfl, ?_⟩) (by assumption) ?_
   rotate_left
   ·(intro w' hSw; (try dsimp only at hSw); go_simp; try with_reducible rfl)
   simp only [Act.put, List.setIfInBounds_toArray, List.set_cons_zero, List.set_cons_succ]
   refine wpAnyH_ready (rs := [6]) (by kernel_rfl) (by simp) ?_
   refine AllReadyH.cons rfl (fun K hK => ?_) AllReadyH.nil
   go_simp
   go_at_call 98
   refine (HP.out _ hx1.drew).mono ?_
   rintro e w5 ⟨hx5, cg, c, rfl, hcg, hcr, hpc⟩
   have hS5 : Ext w1 w5 := (Ext.refl w1).drew.trans hx5
   have hc5 := hcr.c xp hxp
   have hl5 := hcr.lt
   have HPC := Lib.hid hpc
   clear hcr hpc hcg
   refine hK.out _ _ hS5 (fun hHeld2 => ?_)
   clear hK K
   try simp only [Act.put, List.setIfInBounds_toArray, List.set_cons_zero, List.set_cons_succ]
   refine heldTake 9 (v := ?_) rfl (by kernel_rfl) (by kernel_rfl) (by kernel_rfl) (fun _ _ _ h => h) (Or.inl ⟨by rfl, ?_⟩) (by assumption) ?_
   rotate_left
   ·(intro w' hSw; (try dsimp only at hSw); go_simp; try with_reducible rfl)
   simp only [Act.put, List.setIfInBounds_toArray, List.set_cons_zero, List.set_cons_succ]
   refine wpAnyH_ready (rs := [10]) (by kernel_rfl) (by simp) ?_
   refine AllReadyH.cons rfl (fun K hK => ?_) AllReadyH.nil
   go_simp
   refine hK.out _ _ hS5 (fun hHeld3 => ?_)
   clear hK K
   try simp only [Act.put, List.setIfInBounds_toArray, List.set_cons_zero, List.set_cons_succ]
   refine heldTake 13 (v := ?_) rfl (by kernel_rfl) (by kernel_rfl) (by kernel_rfl) (fun _ _ _ h => h) (Or.inl ⟨by rfl, ?_⟩) (by assumption) ?_
   rotate_left
   ·(intro w' hSw; (try dsimp only at hSw); go_simp; try with_reducible rfl)
   simp only [Act.put, List.setIfInBounds_toArray, List.set_cons_zero, List.set_cons_succ]
   refine heldTake 14 (v := ?_) rfl (by kernel_rfl) (by kernel_rfl) (by kernel_rfl) (fun _ _ _ h => h) (Or.inl ⟨by rfl, ?_⟩) (by assumption) ?_
   rotate_left
   ·(intro w' hSw; (try dsimp only at hSw); go_simp; try with_reducible rfl)
   simp only [Act.put, List.setIfInBounds_toArray, List.set_cons_zero, List.set_cons_succ]
   refine heldTake 15 (v := ?_) rfl (by kernel_rfl) (by kernel_rfl) (by kernel_rfl) (fun _ _ _ h => h) (Or.inl ⟨by rfl, ?_⟩) (by assumption) ?_
   rotate_left
   ·(intro w' hSw; (try dsimp only at hSw); go_simp; try with_reducible rfl)
   simp only [Act.put, List.setIfInBounds_toArray, List.set_cons_zero, List.set_cons_succ]
   refine wpAnyH_done (by kernel_rfl) ?_ _
   simp only [Exit.then]
   clear hHeld hHeld2 hHeld3 hc5 hl5
   go_wp2_with fail
   go_ret
   refine ⟨_, rfl, ?_, hx1.trans hS5⟩
   rw [decide_eq_true_iff]
   refine Iff.trans ?_ (and_iff_right HXY.out).symm
   refine Iff.trans ?_ (HPC.out.2 xp xi hxp)
   omega
end Go.Proofs.YtmhapcnlpoilpaaGreatDoor

namespace Go.Proofs.YtmhapcnlpoilpaaGreatDoor
open Go.RowKit Go.Shelf
set_option maxRecDepth 100000 in
set_option maxHeartbeats 400000 in
theorem cbefore_any (w : World) (T : TM) (hT : T.At w) (hV : T.toTr.Valid) (x y : NN) (hx : T.toTr.V x) (hy : T.toTr.V y) (b : Bool) (hb : b = true ↔ T.toTr.Bef x y) :
    Calls Tryz.prog 19 #[T.val, .agg #[.int .i64 x.1, .int .i64 (x.2 + 1)], .agg #[.int .i64 y.1, .int .i64 (y.2 + 1)]] w fun e w' => e = .returned (.tuple #[.bool b, .int .i64 0]) ∧ Ext w w' := by
 have pa := hT.P.pa (by have := hx.1; omega)
 have hCk := fun W (h : Ext w W) g hg => check_two W T (hT.ext h) hV g x y hx hy hg
 have hKn := fun W (h : Ext w W) => knows_any W T (hT.ext h) hV
 have hBf := fun W (h : Ext w W) bs br hK => (before_any W T (hT.ext h) hV x y hx hy bs br hK).mono (R' := fun e w' => e = .returned (.bool b) ∧ Ext W w') fun e w' ⟨c, he, hc, hx'⟩ => ⟨by rw [he, show c = b by rw [Bool.eq_iff_iff, hc, hb]], hx'⟩
 obtain ⟨xp, xi⟩ := x
 obtain ⟨yp, yi⟩ := y
 simp only [TM.val, pa] at hCk hKn
 dsimp only at hCk hKn hBf ⊢
 have HCk := Lib.hid hCk
 have HKn := Lib.hid hKn
 have HBf := Lib.hid hBf
 clear hT hV hCk hKn hBf hb hx hy
 go_enter Tryz.func19, Tryz.ntmps19
 go_upto_region 1 with fail
 refine boxed3 (w := w) (G := fun x => Code.wp _ _ _ _ x) ?_
 intro w1 hx1 hs1 ⟨l0, c0, _, _⟩ ⟨l1, c1, _, _⟩ ⟨l2, c2, _, _⟩
 have hx11 : Ext w1 w1 := Ext.refl _
 clear hs1
 go_wp2_with fail
 go_at_call 46
 refine (HCk.out _ (hx1.alloc' _) _ (Hold.new _ _ _)).mono ?_
 rintro e w2 ⟨rfl, hx2⟩
 have hx12 : Ext w1 w2 := (Ext.alloc _ _).trans hx2
 have hx22 : Ext w2 w2 := Ext.refl _
 clear hx2
 go_upto_region 4 with fail
 refine wp_region_held_drew (S := fun w' => Ext w1 w') (by kernel_rfl) hx12.drew (fun hHeld => ?_)
 refine heldTake 0 (v := ?_) rfl (by kernel_rfl) (by kernel_rfl) (by kernel_rfl) (fun _ _ _ h => h) (Or.inl ⟨by rfl, ?_⟩) (by assumption) ?_
 rotate_left
 ·(intro w' hSw; (try dsimp only at hSw); go_simp; try with_reducible rfl)
 simp only [Act.put, List.setIfInBounds_toArray, List.set_cons_zero, List.set_cons_succ]
 refine heldTake 2 (v := ?_) rfl (by kernel_rfl) (by kernel_rfl) (by kernel_rfl) (fun _ _ _ h => h) (Or.inl ⟨by rfl, ?_⟩) (by assumption) ?_
 rotate_left
 ·(intro w' hSw; (try dsimp only at hSw); go_simp; try with_reducible rfl)
 simp only [Act.put, List.setIfInBounds_toArray, List.set_cons_zero, List.set_cons_succ]
 refine heldTake 3 (v := ?_) rfl (by kernel_rfl) (by kernel_rfl) (by kernel_rfl) (fun _ _ _ h => h) (Or.inl ⟨by rfl, ?_⟩) (by assumption) ?_
 rotate_left
 ·(intro w' hSw; (try dsimp only at hSw); go_simp; try with_reducible rfl)
 simp only [Act.put, List.setIfInBounds_toArray, List.set_cons_zero, List.set_cons_succ]
 refine wpAnyH_ready (rs := [1]) (by kernel_rfl) (by simp) ?_
 refine AllReadyH.cons rfl (fun K hK => ?_) AllReadyH.nil
 go_simp
 go_at_call 48
 refine (HKn.out _ (hx1.trans hx12.drew)).mono ?_
 rintro e w5 ⟨hx5, bs, br, rfl, hKA⟩
 have hS5 : Ext w1 w5 := hx12.drew.trans hx5
 have HBf5 := HBf.out w5 (hx1.trans hS5) bs br hKA
 clear hKA
 refine hK.out _ _ hS5 (fun hHeld2 => ?_)
 clear hK K
 try simp only [Act.put, List.setIfInBounds_toArray, List.set_cons_zero, List.set_cons_succ]
 refine wpAnyH_ready (rs := [4]) (by kernel_rfl) (by simp) ?_
 refine AllReadyH.cons rfl (fun K hK => ?_) AllReadyH.nil
 go_simp
 go_at_call 47
 refine HBf5.mono ?_
 rintro e w6 ⟨rfl, hx6⟩
 have hS6 : Ext w1 w6 := hS5.trans hx6
 refine hK.out _ _ hS6 (fun hHeld3 => ?_)
 clear hK K
 try simp only [Act.put, List.setIfInBounds_toArray, List.set_cons_zero, List.set_cons_succ]
 refine heldTake 5 (v := ?_) rfl (by kernel_rfl) (by kernel_rfl) (by kernel_rfl) (fun _ _ _ h => h) (Or.inl ⟨by rfl, ?_⟩) (by assumption) ?_
 rotate_left
 ·(intro w' hSw; (try dsimp only at hSw); go_simp; try with_reducible rfl)
 simp only [Act.put, List.setIfInBounds_toArray, List.set_cons_zero, List.set_cons_succ]
 refine heldTake 6 (v := ?_) rfl (by kernel_rfl) (by kernel_rfl) (by kernel_rfl) (fun _ _ _ h => h) (Or.inl ⟨by rfl, ?_⟩) (by assumption) ?_
 rotate_left
 ·(intro w' hSw; (try dsimp only at hSw); go_simp; try with_reducible rfl)
 simp only [Act.put, List.setIfInBounds_toArray, List.set_cons_zero, List.set_cons_succ]
 refine wpAnyH_done (by kernel_rfl) ?_ _
 simp only [Exit.then]
 clear hHeld hHeld2 hHeld3
 go_wp2_with fail
 go_ret2
 exact ⟨rfl, hx1.trans hS6⟩
end Go.Proofs.YtmhapcnlpoilpaaGreatDoor

namespace Go.Proofs.YtmhapcnlpoilpaaGreatDoor
open Go.RowKit Go.Shelf
theorem StS.read {base n : Nat} {rows : Nat → List Int} {vs : Nat → Value} {w : World} (h : StS base base n rows vs w) {k i : Nat} (hk : k < n) (hi : i < (rows k).length) :
    ∃ gx cx, (∀ w', Ext w w' → w'.cell? ⟨base, k, none⟩ = some (.slice (some ⟨gx, 0, none⟩) (rows k).length cx)) ∧ (∀ w', Ext w w' → gx < w'.heap.size) ∧ ∀ w', Ext w w' → w'.cell? ⟨gx, i, none⟩ = some (.int .i64 ((rows k).getD i 0)) := by
 have hf := (h.own k hk).form
 have h0 : 0 < (rows k).length := by omega
 refine ⟨vBlock (vs k), vCap (vs k), fun w' x => ?_, fun w' x => Nat.lt_of_lt_of_le ((h.own k hk).lt _ (hf.2.2.2.1 h0)) x.le, fun w' x => ?_⟩
 ·rw [x.cell (h.cell k hk), ← hf.2.1 h0]; exact congrArg some hf.1
 ·rw [hf.2.2.2.2 w' x i hi, List.getD_eq_getElem?_getD, List.getElem?_eq_getElem hi]; rfl
theorem EvOwn.evs {T : Tr} {w : World} {base : Nat} {v : Value} (h : EvOwn w base v (T.evs.map fun x => evI x.1)) : ∃ a g c, v = .slice a T.evs.length c ∧ ∀ k, k < T.evs.length → a = some ⟨g, 0, none⟩ ∧ (∀ w', Ext w w' → g < w'.heap.size) ∧
    (∀ w', Ext w w' → w'.cell? ⟨g, k * 2, none⟩ = some (.int .i64 (T.evN k).1)) ∧ ∀ w', Ext w w' → w'.cell? ⟨g, k * 2 + 1, none⟩ = some (.int .i64 ((T.evN k).2 + 1)) := by
 obtain ⟨a, g, c, hv, hs⟩ := h.shape
 rw [List.length_map] at hv hs
 refine ⟨a, g, c, hv, fun k hk => ?_⟩
 obtain ⟨h1, h2, h3, h4⟩ := hs (by omega)
 have hd : (T.evs.map fun x => evI x.1).getD k (0, 0) = evI (T.evN k) := by
  rw [List.getD_eq_getElem?_getD, List.getElem?_map, List.getElem?_eq_getElem hk, T.evN_get k hk]; rfl
 exact ⟨h1, fun w' x => Nat.lt_of_lt_of_le h3 x.le, fun w' x => x.cell ((h4.c0 k hk).trans (by rw [hd])), fun w' x => x.cell ((h4.c1 k hk).trans (by rw [hd]))⟩
end Go.Proofs.YtmhapcnlpoilpaaGreatDoor

namespace Go.Proofs.YtmhapcnlpoilpaaGreatDoor
open Go.RowKit Go.Shelf
theorem Tr.Stamps.latest {T : Tr} {rows : Nat → List Int} (hR : T.Stamps rows) {M : Mx} {p i : Nat} (hp : p < T.n) (hi : i < T.en p) (hM : M.val = fun p i => stOf rows (p, i)) : T.latest M (p, i) = stOf rows (p, i) - 1 := by
 have h1 := Tr.RsI.lat (f := fun p i => stOf rows (p, i)) (fun p i hp hi => ⟨by have := hR.pos (x := (p, i)) ⟨hp, hi⟩; show (0 : Int) ≤ stOf rows (p, i); omega, Int.le_refl _⟩) hR hp hi hM
 have h3 := Mx.top_ge M (T.bk (p, i))
 have hy : T.V (p, i) := ⟨hp, hi⟩
 have e := hR.eq p i hp hi
 have e' : stOf rows (p, i) = max (if i = 0 then 0 else (rows p).getD (i - 1) 0) (if T.kind p i = 3 then stOf rows (T.sndN (p, i)) else 0) + 1 := e
 have hprev : (if i = 0 then 0 else (rows p).getD (i - 1) 0) ≤ M.top (T.bk (p, i)) := by
  by_cases h0 : i = 0
  ·rw [if_pos h0]; exact h3.1
  ·rw [if_neg h0]
   have hd : T.Dir (p, i - 1) (p, i) := .inl ⟨rfl, by show i = i - 1 + 1; omega⟩
   have h4 := h3.2 _ (Tr.mem_bk.2 hd)
   rw [hM] at h4; exact h4
 have hsnd : (if T.kind p i = 3 then stOf rows (T.sndN (p, i)) else 0) ≤ M.top (T.bk (p, i)) := by
  by_cases h0 : T.kind p i = 3
  ·rw [if_pos h0]
   have hd : T.Dir (T.sndN (p, i)) (p, i) := .inr ⟨h0, rfl⟩
   have h4 := h3.2 _ (Tr.mem_bk.2 hd)
   rw [hM] at h4; exact h4
  ·rw [if_neg h0]; exact h3.1
 have h5 : T.latest M (p, i) = M.top (T.bk (p, i)) := rfl
 omega
section
open Go.ChangeShapes Go.WideShapes Go.Deep
variable {H : Type} {enc : TypeId × Value → H} {W : World}
end
end Go.Proofs.YtmhapcnlpoilpaaGreatDoor

namespace Go.Proofs.YtmhapcnlpoilpaaGreatDoor
open Go.RowKit Go.Shelf
end Go.Proofs.YtmhapcnlpoilpaaGreatDoor

namespace Go.Proofs.YtmhapcnlpoilpaaGreatDoor
open Go.RowKit Go.Shelf
theorem Tr.Stamps.less {T : Tr} {rows : Nat → List Int} (hR : T.Stamps rows) {p i : Nat} (hp : p < T.n) (hi : i < T.en p) {M : Mx} (h0 : M.val p i = stOf rows (p, i) - 1) (hm : ∀ k j, k < T.n → j < T.en k → (k, j) ≠ (p, i) → M.val k j = stOf rows (k, j)) : ¬ T.CheckP M := by
 intro hC
 have h1 := Tr.rck_iff.1 ((Tr.check_iff.2 hC).2.2 p i hp hi)
 have hl := hR.latest (M := mxOf T (fun p i => stOf rows (p, i))) hp hi rfl
 have hlt : (mxOf T (fun p i => stOf rows (p, i))).top (T.bk (p, i)) < M.val p i := by
  refine Mx.top_lt.2 ⟨h1.2.1, fun y hy => ?_⟩
  have hd := Tr.mem_bk.1 hy
  have hv : T.V y := Tr.Dir.V (y := (p, i)) ⟨hp, hi⟩ hd
  have h2 := h1.2.2 y hd
  have h3 := hR.dir_lt (x := (p, i)) ⟨hp, hi⟩ hd
  rw [hm y.1 y.2 hv.1 hv.2 (fun e => by rw [show y = (p, i) from e] at h3; omega)] at h2
  exact h2
 have hl' : (mxOf T (fun p i => stOf rows (p, i))).top (T.bk (p, i)) = stOf rows (p, i) - 1 := hl
 omega
theorem Que.own_lt {w : World} {base size : Nat} {v : Value} {n : Nat} {xs : List Value} (h : Que w base size v n xs) (h0 : 0 < n) : ∀ b, v.ownBlock = some b → b < w.heap.size := by
 intro b e
 rcases h.val with ⟨ao, hv, hn, _⟩ | ⟨g, off, cap, hv, _, h2, _⟩
 ·omega
 ·rw [hv] at e; simp [Value.ownBlock] at e; omega
theorem Que.slice {w : World} {base size : Nat} {v : Value} {n : Nat} {xs : List Value} (h : Que w base size v n xs) : ∃ a c, v = .slice a n c := by
 rcases h.val with ⟨ao, hv, hn, _⟩ | ⟨g, off, cap, hv, _⟩
 ·exact ⟨ao, 0, by rw [hv, hn]⟩
 ·exact ⟨_, _, hv⟩
end Go.Proofs.YtmhapcnlpoilpaaGreatDoor
