/- Small lemmas on cells and stores. Nothing of the program. -/
import Derived.Test.YtecgigeeolindaaBase
import Derived.RangeFuncNested
namespace Go.Proofs.Ytecgigeeolindaa
open Go.RowKit

theorem cell_set (w : World) (b o o' : Nat) (v : Value) {u : Value} (h : w.cell? ⟨b, o, none⟩ = some u) :
    (w.setCell ⟨b, o, none⟩ v).cell? ⟨b, o', none⟩ = if o' = o then some v else w.cell? ⟨b, o', none⟩ := by
  simp only [World.cell?] at h
  cases hb : w.heap[b]? with
  | none => simp [hb] at h
  | some ob =>
    cases ob with
    | cells c t fr =>
      simp [hb] at h
      have hlt : o < c.size := by
        apply Nat.lt_of_not_le; intro hge; rw [Array.getElem?_eq_none hge] at h; cases h
      simp only [World.cell?, World.setCell, Array.getElem?_modify, hb]
      simp only [Option.isSome_none, Bool.false_eq_true, if_false, if_true, Option.map_some]
      rw [Array.getElem?_setIfInBounds]
      by_cases e : o = o'
      · subst e; simp [hlt]
      · rw [if_neg e, if_neg (fun h => e h.symm)]
    | _ => simp [hb] at h
theorem cell_set_other (w : World) (p : Addr) (b o : Nat) (v : Value) (h : b ≠ p.block) : (w.setCell p v).cell? ⟨b, o, none⟩ = w.cell? ⟨b, o, none⟩ :=
  World.cell?_of_block (w := w) (Below.heap_setCell _ _ _ _ h)
theorem frozen_set (w : World) (p q : Addr) (v : Value) : (w.setCell p v).frozen? q = w.frozen? q := World.frozen?_setCell _ _ _ _

/-- a block of cells is held whole -/
def Hold (W : World) (b : Nat) (c : Array Value) : Prop := ∃ t, W.heap[b]? = some (.cells c t (0, 0))
theorem Hold.box {W : World} {b : Nat} {c : Array Value} (h : Hold W b c) : Box W b c := by obtain ⟨t, h⟩ := h; exact Box.of h
theorem Hold.ext {W W' : World} {b : Nat} {c : Array Value} (h : Hold W b c) (x : Ext W W') : Hold W' b c := (h.box.ext x).hold
theorem Hold.lt {W : World} {b : Nat} {c : Array Value} (h : Hold W b c) : b < W.heap.size := h.box.lt W (Ext.refl _)
theorem Hold.below {W W' : World} {B b : Nat} {c : Array Value} (h : Hold W b c) (x : Below B W W') (hb : b < B) : Hold W' b c := by
  obtain ⟨t, h⟩ := h; exact ⟨t, (x.block b hb).trans h⟩
theorem Hold.other {W : World} {b : Nat} {c : Array Value} (h : Hold W b c) (p : Addr) (v : Value) (hp : b ≠ p.block) : Hold (W.setCell p v) b c := by
  obtain ⟨t, h⟩ := h; exact ⟨t, by rw [Below.heap_setCell _ _ _ _ hp]; exact h⟩
theorem Hold.set {W : World} {b : Nat} {c : Array Value} (h : Hold W b c) (i : Nat) (v : Value) : Hold (W.setCell ⟨b, i, none⟩ v) b (c.setIfInBounds i v) := by
  obtain ⟨t, h⟩ := h
  refine ⟨t, ?_⟩
  simp only [World.setCell, Array.getElem?_modify, h]
  simp
theorem Hold.drew {W : World} {b : Nat} {c : Array Value} (h : Hold W b c) : Hold W.drew b c := h
theorem Hold.drewN {W : World} {b : Nat} {c : Array Value} (h : Hold W b c) (n : Nat) : Hold (W.drewN n) b c := h
theorem Hold.own {β : Type} (B b : Nat) (c : β → Array Value) : OwnFrom B (fun (s : β) W => Hold W b (c s)) := by
  intro s W W' row ⟨t, h⟩ hg hr
  refine ⟨t, ?_⟩
  rw [hg.block b (Array.getElem?_eq_some_iff.1 h).1 (fun e => ?_)]
  · exact h
  · obtain ⟨_, o, ho, hc⟩ := hr b e.symm
    rw [h] at ho; cases ho; cases hc
theorem Hold.new (W : World) (c : Array Value) (t : TypeId) : Hold (W.alloc (.cells c t)) W.heap.size c := ⟨t, by show (W.heap.push _)[W.heap.size]? = _; simp⟩
theorem Ext.keepsFrom {W W' : World} (h : Ext W W') (B : Nat) : KeepsFrom B W W' :=
  ⟨h.size, fun k o _ hk _ => by rw [← hk]; exact h.block k (Array.getElem?_eq_some_iff.1 hk).1⟩
theorem keeps_set (B : Nat) (W : World) (p : Addr) (v : Value) : KeepsFrom B W (W.setCell p v) := (KeepsOthers.setCell _ _ _).from _

theorem Hold.putObj {W : World} {b : Nat} {c : Array Value} (h : Hold W b c) (D : Nat) (o : Obj) (hD : b ≠ D) : Hold (W.putObj D o) b c := by
  obtain ⟨t, h⟩ := h; exact ⟨t, (World.putObj_heap_other hD).trans h⟩
theorem Hold.cell0 {W : World} {b : Nat} {c : Array Value} (h : Hold W b c) (i : Nat) : W.cell? ⟨b, i, none⟩ = c[i]? := h.box.cell W (Ext.refl _) i

theorem news_ok (w : World) (l : List Value) (t : TypeId) : ∀ (j : Nat) (u : Value), l[j]? = some u → (w.alloc (.cells l.toArray t)).cell? ((⟨w.heap.size, 0, none⟩ : Addr).add j) = some u := by
  intro j u h
  have e : (⟨w.heap.size, 0, none⟩ : Addr).add j = ⟨w.heap.size, j, none⟩ := by
    unfold Addr.add
    by_cases hj : j = 0
    · subst hj; rfl
    · rw [if_neg hj]; simp
  rw [e, World.cell?_alloc_new]
  simpa using h
theorem Ext.grown {w w' : World} (h : w.grownBy w' none) : Ext w w' := (Below.refl _ _).grown h (Nat.le_refl _) (fun k e => by cases e)

end Go.Proofs.Ytecgigeeolindaa
