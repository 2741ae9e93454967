/- For causality.Order: the events by number, happened-before, the rows of later events. Contract: causality.Order. Contracts: slices.Grow (from nil) and slices.Concat at []int. Contract: lamport.Skipped. -/
import Derived.Test.YtnknkkmdbnaglaaGreatKj
import Derived.Test.YtnknkkmdbnaglaaGreatKi
import Derived.Lib.AppendZeros
import Derived.Lib.QuietBelow
namespace Go.Proofs.YtnknkkmdbnaglaaGreat
open Go.RowKit Go.Shelf
def Tr.evN (T : Tr) (k : Nat) : NN := (T.evs.map (·.1)).getD k (0, 0)
theorem Tr.evN_get (T : Tr) (k : Nat) (h : k < T.evs.length) : T.evN k = (T.evs[k]).1 := by
 unfold Tr.evN; rw [List.getD_eq_getElem?_getD, List.getElem?_eq_getElem (by simpa using h)]; simp
def Tr.bef (T : Tr) (i j : Nat) : Prop := T.evN i ≠ T.evN j ∧ T.Past (T.evN j) (T.evN i)
theorem Hold.at {w w' : World} {b : Nat} {c : Array Value} (h : Hold w b c) (e : w'.heap[b]? = w.heap[b]?) : Hold w' b c := by
 obtain ⟨t, h⟩ := h; exact ⟨t, e.trans h⟩
theorem SetM.At.same {S : SetM} {w w' : World} (h : S.At w) (hs : w.heap.size ≤ w'.heap.size) (e : 0 < S.m → w'.heap[S.b]? = w.heap[S.b]?) : S.At w' := by
 refine ⟨h.hm, h.pa, fun h0 w2 x => Nat.lt_of_lt_of_le (h.pb h0 w (Ext.refl _)) (Nat.le_trans hs x.le), fun w2 x k hk => ?_, h.u⟩
 have hb := h.pb (by omega) w (Ext.refl _)
 have e1 : w2.heap[S.b]? = w.heap[S.b]? := (x.block _ (by omega)).trans (e (by omega))
 rw [World.cell?_of_block (w := w) (a := ⟨S.b, S.off + k, none⟩) e1]; exact h.p0 w (Ext.refl _) k hk
end Go.Proofs.YtnknkkmdbnaglaaGreat

namespace Go.Proofs.YtnknkkmdbnaglaaGreat
open Go.RowKit Go.Shelf
theorem drewd {w : World} {n : Nat} {G : World → Prop} (h : ∀ w', Ext w w' → G w') : G (w.drewN n) := h _ ((Ext.refl _).drewN _)
end Go.Proofs.YtnknkkmdbnaglaaGreat

namespace Go.Proofs.YtnknkkmdbnaglaaGreat
open Go.RowKit Go.Shelf
end Go.Proofs.YtnknkkmdbnaglaaGreat

namespace Go.Proofs.YtnknkkmdbnaglaaGreat
open Go.RowKit Go.Shelf
open Classical in
noncomputable def Tr.sk (T : Tr) (rows : Nat → List Int) (x y : Nat) : Nat := if stOf rows (T.evN x) < stOf rows (T.evN y) ∧ ¬ T.bef x y then 1 else 0
end Go.Proofs.YtnknkkmdbnaglaaGreat
