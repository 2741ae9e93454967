/- Contract: lamport.Longest, at an event that exists. -/
import Derived.Test.YtdplphoohnnbcaaGreatDoorIb
import Derived.Test.YtdplphoohnnbcaaGreatDoorId
namespace Go.Proofs.YtdplphoohnnbcaaGreatDoor
open Go.RowKit Go.Shelf

theorem boxed1t {w : World} {c : Array Value} {t : TypeId} {G : World → Prop}
    (h : ∀ w2, Ext w w2 → w2.heap.size = w.heap.size + 1 → w2.heap[w.heap.size]? = some (.cells c t (0, 0)) → G w2) : G (w.alloc (.cells c t)) :=
  h _ (Ext.alloc _ _) (by simp) (by show (w.heap.push _)[w.heap.size]? = _; simp)
theorem evOwn_one {w : World} {base g : Nat} {x y : Int} (h : w.heap[g]? = some (.cells #[.int .i64 x, .int .i64 y] 95 (0, 0))) (hb : base ≤ g) : EvOwn w base (.slice (some ⟨g, 0, none⟩) 1 1) [(x, y)] :=
  ⟨rfl, .inr ⟨g, 1, _, rfl, hb, h, Nat.le_refl _, by unfold maxLen; omega, rfl, rfl⟩⟩
theorem Tr.lng_getD (T : Tr) (rows : Nat → List Int) (x : NN) (j i : Nat) (h : i < j + 1) : (T.lng rows x j).getD i (0, 0) = evI (T.prvN rows x i) := by
  have h' : i < (T.lng rows x j).length := by rw [Tr.lng_len]; exact h
  rw [List.getD_eq_getElem?_getD, List.getElem?_eq_getElem h', Option.getD_some, Tr.lng_get]
theorem setd2 {w : World} {p q : Addr} {v u : Value} {G : World → Prop} (h : ∀ w5, w5 = (w.setCell p v).setCell q u → G w5) : G ((w.setCell p v).setCell q u) := h _ rfl
theorem setd {w : World} {n : Nat} {p : Addr} {v : Value} {G : World → Prop} (h : ∀ w5, w5 = (w.drewN n).setCell p v → G w5) : G ((w.drewN n).setCell p v) := h _ rfl

end Go.Proofs.YtdplphoohnnbcaaGreatDoor
