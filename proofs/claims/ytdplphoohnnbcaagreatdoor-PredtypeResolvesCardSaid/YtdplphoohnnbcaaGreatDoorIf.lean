/- Contract: causality's known.past. Contracts: causality.events, check, exists. Contracts: causality.exists, check, before, Before. -/
import Derived.Test.YtdplphoohnnbcaaGreatDoorId
import Derived.Test.YtdplphoohnnbcaaGreatDoorIe
namespace Go.Proofs.YtdplphoohnnbcaaGreatDoor
open Go.RowKit Go.Shelf

/-- n counts lie in block g -/
structure CRow (w : World) (g n : Nat) (c : Nat → Nat) : Prop where
  c : ∀ k, k < n → w.cell? ⟨g, k, none⟩ = some (.int .i64 (c k))
  fr : ∀ o, w.frozen? ⟨g, o, none⟩ = false
  lt : g < w.heap.size
theorem CRow.block {w w' : World} {g n : Nat} {c : Nat → Nat} (h : CRow w g n c) (hs : w.heap.size ≤ w'.heap.size) (x : w'.heap[g]? = w.heap[g]?) : CRow w' g n c :=
  ⟨fun k hk => (World.cell?_of_block (w := w) (a := ⟨g, k, none⟩) x).trans (h.c k hk), fun o => (World.frozen?_of_block (w := w) (a := ⟨g, o, none⟩) x).trans (h.fr o), Nat.lt_of_lt_of_le h.lt hs⟩
theorem CRow.ext {w w' : World} {g n : Nat} {c : Nat → Nat} (h : CRow w g n c) (x : Ext w w') : CRow w' g n c := h.block x.le (x.block g h.lt)
theorem CRow.made {w : World} {base g n : Nat} (h : w.ownsRow base 3 1 (.slice (some ⟨g, 0, none⟩) n n) n (madeCells (Value.int .i64 0).cells (n * 1)).toList) : CRow w g n (fun _ => 0) := by
  obtain ⟨h1, ⟨hv, _⟩ | ⟨g', cap, cur, hv, hg, hh, hc, hm, hs, ht⟩⟩ := h
  · cases hv
  · simp only [Value.slice.injEq, Option.some.injEq, Addr.mk.injEq] at hv
    obtain ⟨⟨rfl, _⟩, _, rfl⟩ := hv
    have hb := Box.of hh
    have hz : (Value.int .i64 0).cells = #[.int .i64 0] := rfl
    rw [hz, toList_madeCells_one] at ht
    refine ⟨fun k hk => ?_, fun o => hb.frozen w (Ext.refl _) o, hb.lt w (Ext.refl _)⟩
    rw [hb.cell w (Ext.refl _)]
    have : cur[k]? = (List.replicate (n * 1) (Value.int .i64 0))[k]? := by rw [← ht, List.getElem?_take_of_lt (by omega)]; simp
    rw [this, List.getElem?_replicate, if_pos (by omega)]; rfl
theorem CRow.set {w : World} {g n : Nat} {c : Nat → Nat} (h : CRow w g n c) (q v : Nat) (hq : q < n) : CRow (w.setCell ⟨g, q, none⟩ (.int .i64 v)) g n (updC c q v) := by
  refine ⟨fun k hk => ?_, fun o => ?_, by rw [World.size_setCell]; exact h.lt⟩
  · unfold updC
    by_cases e : k = q
    · subst e
      rw [if_pos rfl]; exact World.cell?_setCell_same _ _ _ (h.c k hk)
    · rw [if_neg e]; refine Eq.trans ?_ (h.c k hk); apply World.cell?_setCell_other; intro h9; simp only [Addr.mk.injEq] at h9; exact e h9.2.1.symm
  · rw [frozen_set]; exact h.fr o
theorem evCells_append (a b : List (Int × Int)) : evCells (a ++ b) = evCells a ++ evCells b := by simp [evCells]
theorem evCells_one (l : List (Int × Int)) : ∀ u ∈ evCells l, u.oneCell' = true := by
  intro u hu
  simp only [evCells, List.mem_flatMap] at hu
  obtain ⟨x, _, hx⟩ := hu
  simp at hx
  rcases hx with rfl | rfl <;> rfl
/-- the search in memory: counts in block w.heap.size + 2, the queue behind it -/
structure PaW (T : TM) (bs br : Nat) (w : World) (c : Nat → Nat) (q : List NN) (v : Value) (wr : World) : Prop where
  h0 : Hold wr w.heap.size #[.slice (some ⟨T.b, T.off, none⟩) T.n T.cap, .map (some bs), .map (some br)]
  cn : CRow wr (w.heap.size + 1 + 1) T.n c
  qu : Que wr (w.heap.size + 1 + 1 + 1) 2 v q.length (evCells (q.map evI))
  bl : Ext w wr
theorem PaW.ext {T : TM} {bs br : Nat} {w wr w' : World} {c : Nat → Nat} {q : List NN} {v : Value} (h : PaW T bs br w c q v wr) (x : Ext wr w') : PaW T bs br w c q v w' :=
  ⟨h.h0.ext x, h.cn.ext x, h.qu.ext x, h.bl.trans x⟩
/-- the queue has grown -/
theorem PaW.grow {T : TM} {bs br : Nat} {w wr w4 w5 : World} {c : Nat → Nat} {q l : List NN} {v v' : Value} (h : PaW T bs br w c q v wr) (x : Ext wr w4)
    (hq : Que w5 (w.heap.size + 1 + 1 + 1) 2 v' (q.length + l.length) (evCells (q.map evI) ++ evCells (l.map evI))) (hg : w4.grownBy w5 v.ownBlock) : PaW T bs br w c (q ++ l) v' w5 := by
  have h4 := h.ext x
  have hb := h4.qu.block
  have hsz : w.heap.size + 1 + 1 < w4.heap.size := h4.cn.lt
  have hbl : ∀ k, k < w.heap.size + 1 + 1 + 1 → w5.heap[k]? = w4.heap[k]? := fun k hk => hg.block k (by omega) (fun e => by have := hb k e.symm; omega)
  refine ⟨?_, h4.cn.block hg.size (hbl _ (by omega)), ?_, ?_⟩
  · obtain ⟨t, h0⟩ := h4.h0
    exact ⟨t, (hbl _ (by omega)).trans h0⟩
  · rw [List.length_append, List.map_append, evCells_append]; exact hq
  · exact Below.trans h4.bl ⟨hg.os, hg.tape, hg.output, hg.size, fun k hk => hbl k (by omega)⟩
/-- a count was set -/
theorem PaW.set {T : TM} {bs br : Nat} {w wr : World} {c : Nat → Nat} {q : List NN} {v : Value} (h : PaW T bs br w c q v wr) {p : Nat} (hp : p < T.n) (y : Nat) : PaW T bs br w (updC c p y) q v (wr.setCell ⟨w.heap.size + 1 + 1, p, none⟩ (.int .i64 y)) :=
  ⟨h.h0.other _ _ (by show _ ≠ w.heap.size + 1 + 1; omega), h.cn.set p y hp, h.qu.same (by rw [World.size_setCell]; exact Nat.le_refl _) (fun g hg _ => Below.heap_setCell _ _ _ _ (by show g ≠ w.heap.size + 1 + 1; omega)), h.bl.setCell (by show _ ≤ w.heap.size + 1 + 1; omega) _⟩
def PastPost (T : TM) (x : NN) (w : World) (e : Ending) (w' : World) : Prop := Ext w w' ∧ ∃ g c, e = .returned (.slice (some ⟨g, 0, none⟩) T.n T.n) ∧ w.heap.size ≤ g ∧ CRow w' g T.n c ∧ T.toTr.PastC x c

end Go.Proofs.YtdplphoohnnbcaaGreatDoor

namespace Go.Proofs.YtdplphoohnnbcaaGreatDoor
open Go.RowKit Go.Shelf

/-- all events up to a place, as pairs -/
def Tr.evL (T : Tr) (k i : Nat) : List (Int × Int) := (T.evsTo k i).map fun x => evI x.1
theorem Tr.evL_succ (T : Tr) (k i : Nat) (hk : k < T.n) (hi : i < T.en k) : T.evL k (i + 1) = T.evL k i ++ [((k : Int), (i : Int) + 1)] := by
  unfold Tr.evL; rw [Tr.evsTo_succ _ _ _ hk hi, List.map_append]; rfl
structure EvsI (T : TM) (w : World) (k i : Nat) (v : Value) (wr : World) : Prop where
  h0 : Hold wr w.heap.size #[.slice (some ⟨T.b, T.off, none⟩) T.n T.cap]
  own : EvOwn wr (w.heap.size + 1) v (T.toTr.evL k i)
  bl : Ext w wr
theorem EvsI.ext {T : TM} {w wr w' : World} {k i : Nat} {v : Value} (h : EvsI T w k i v wr) (x : Ext wr w') : EvsI T w k i v w' := ⟨h.h0.ext x, h.own.kept x, h.bl.trans x⟩
def EvsPost (T : TM) (w : World) (e : Ending) (w' : World) : Prop := Ext w w' ∧ ∃ v, e = .returned v ∧ EvOwn w' w.heap.size v (T.toTr.evs.map fun x => evI x.1)

end Go.Proofs.YtdplphoohnnbcaaGreatDoor

namespace Go.Proofs.YtdplphoohnnbcaaGreatDoor
open Go.RowKit Go.Shelf

/-- there is such an event -/
def Tr.Is (T : Tr) (p i : Int) : Prop := 0 ≤ p ∧ p < T.n ∧ 1 ≤ i ∧ i ≤ T.en p.toNat

end Go.Proofs.YtdplphoohnnbcaaGreatDoor
