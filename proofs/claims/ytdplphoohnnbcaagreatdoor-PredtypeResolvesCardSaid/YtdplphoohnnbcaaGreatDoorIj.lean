/- Contracts: slices.Grow (from nil) and slices.Concat at []int. -/
import Derived.Test.YtdplphoohnnbcaaGreatDoorIh
import Derived.Lib.AppendZeros
namespace Go.Proofs.YtdplphoohnnbcaaGreatDoor
open Go.RowKit Go.Shelf

theorem grow_own {w : World} (n cap : Nat) (hc : n ≤ cap) (hm : cap ≤ maxLen) : (w.drew.alloc (.cells (Builtin.zeroCells #[.int .i64 0] n ++ Builtin.zeroCells #[.int .i64 0] (cap - n)) 3)).ownsRow w.heap.size 3 1 (.slice (some ⟨w.heap.size, 0, none⟩) 0 cap) 0 [] := by
  refine ⟨rfl, .inr ⟨w.heap.size, cap, Builtin.zeroCells #[.int .i64 0] n ++ Builtin.zeroCells #[.int .i64 0] (cap - n), rfl, Nat.le_refl _, ?_, Nat.zero_le _, hm, ?_, by simp⟩⟩
  · show (w.heap.push _)[w.heap.size]? = _
    simp
  · rw [Array.size_append, size_zeroCells, size_zeroCells]; simp; omega
/-- the numbers of a matrix, by events -/
def Tr.flat (T : Tr) (rows : Nat → List Int) (k i : Nat) : List Int := (T.evsTo k i).map fun e => (rows e.1.1).getD e.1.2 0
theorem Tr.flat_row {T : Tr} {rows : Nat → List Int} {k : Nat} (hk : k < T.n) : ∀ i, i ≤ T.en k → T.flat rows k i = T.flat rows k 0 ++ (List.range i).map fun j => (rows k).getD j 0
  | 0, _ => by simp
  | i + 1, h => by
    have ih := Tr.flat_row (T := T) (rows := rows) hk i (by omega)
    unfold Tr.flat at ih ⊢
    rw [Tr.evsTo_succ _ _ _ hk h, List.map_append, ih, List.range_succ, List.map_append, List.append_assoc]; rfl
theorem Tr.flat_next {T : Tr} {rows : Nat → List Int} {k : Nat} (hk : k < T.n) (hl : (rows k).length = T.en k) : T.flat rows (k + 1) 0 = T.flat rows k 0 ++ rows k := by
  have h := Tr.flat_row (T := T) (rows := rows) hk (T.en k) (Nat.le_refl _)
  have e : T.flat rows (k + 1) 0 = T.flat rows k (T.en k) := by unfold Tr.flat; rw [Tr.evsTo_next]
  rw [e, h]
  congr 1
  apply List.ext_getElem
  · simp [hl]
  · intro j h1 h2
    simp [List.getD_eq_getElem?_getD, List.getElem?_eq_getElem h2]
theorem Tr.flat_len {T : Tr} {rows : Nat → List Int} (k i : Nat) : (T.flat rows k i).length = (T.evsTo k i).length := by unfold Tr.flat; simp
theorem intCells_append (a b : List Int) : intCells (a ++ b) = intCells a ++ intCells b := by simp [intCells]
def CatPost (T : Tr) (rows : Nat → List Int) (w : World) (e : Ending) (w' : World) : Prop := Ext w w' ∧ ∃ v, e = .returned v ∧ Que w' w.heap.size 1 v (T.flat rows T.n 0).length (intCells (T.flat rows T.n 0))

end Go.Proofs.YtdplphoohnnbcaaGreatDoor
