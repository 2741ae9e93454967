/- Plain notions: what a call leaves alone (Ext), and small lemmas on worlds. Nothing of the program. -/
import Derived.Test.YtecgigeeolindaaRows
import Derived.WalkKit
import Derived.WalkSpells
import Derived.WalkLawsBesides
import Derived.Deep.QuietTactic
import Derived.BigQuiet
import Derived.Lib.Hide
import Derived.Deep.Cut
import Derived.Deep.DeepCutAuto
namespace Go.Proofs.Ytecgigeeolindaa
open Go.RowKit

/-- what lay in w lies in w' as it lay -/
def Ext (w w' : World) : Prop := Below w.heap.size w w'
theorem Ext.refl (w : World) : Ext w w := Below.refl _ _
theorem Ext.trans {a b c : World} (h : Ext a b) (k : Ext b c) : Ext a c := Below.trans h (Below.mono k h.size)
theorem Ext.alloc (w : World) (o : Obj) : Ext w (w.alloc o) := (Below.refl _ _).alloc (Nat.le_refl _) _
theorem Ext.alloc' {w w' : World} (h : Ext w w') (o : Obj) : Ext w (w'.alloc o) := h.trans (Ext.alloc _ _)
theorem Ext.drew {w w' : World} (h : Ext w w') : Ext w w'.drew := Below.drew h
theorem Ext.drewN {w w' : World} (h : Ext w w') (n : Nat) : Ext w (w'.drewN n) := below_drewN h n
theorem Ext.setCell {w w' : World} (h : Ext w w') {p : Addr} (hp : w.heap.size ≤ p.block) (v : Value) : Ext w (w'.setCell p v) := Below.setCell h hp v
theorem Ext.le {w w' : World} (h : Ext w w') : w.heap.size ≤ w'.heap.size := h.size
theorem Ext.below {w w' : World} (h : Ext w w') : Below w.heap.size w w' := h
theorem cell_lt {w : World} {p : Addr} {v : Value} (hp : w.cell? p = some v) : p.block < w.heap.size := by
  simp only [World.cell?] at hp
  apply Nat.lt_of_not_le; intro hge
  rw [Array.getElem?_eq_none hge] at hp; simp at hp
theorem Ext.cell {w w' : World} (h : Ext w w') {p : Addr} {v : Value} (hp : w.cell? p = some v) : w'.cell? p = some v := by
  rw [Below.cell h (cell_lt hp)]; exact hp
theorem Ext.frozen {w w' : World} (h : Ext w w') {p : Addr} (hp : p.block < w.heap.size) : w'.frozen? p = w.frozen? p := Below.frozen h hp

/-- a box: a block of the call's own, whose cells are known in every later world -/
structure Box (w : World) (b : Nat) (c : Array Value) : Prop where
  lt : ∀ w', Ext w w' → b < w'.heap.size
  cell : ∀ w', Ext w w' → ∀ i, w'.cell? ⟨b, i, none⟩ = c[i]?
  frozen : ∀ w', Ext w w' → ∀ i, w'.frozen? ⟨b, i, none⟩ = false
  hold : ∃ t, w.heap[b]? = some (.cells c t (0, 0))
theorem Box.of {w : World} {b : Nat} {c : Array Value} {t : TypeId} (h : w.heap[b]? = some (.cells c t (0, 0))) : Box w b c := by
  have hlt : b < w.heap.size := by
    apply Nat.lt_of_not_le; intro hge
    rw [Array.getElem?_eq_none hge] at h; simp at h
  refine ⟨fun w' hx => Nat.lt_of_lt_of_le hlt hx.le, fun w' hx i => ?_, fun w' hx i => ?_, t, h⟩
  · have := hx.block b hlt
    simp [World.cell?, this, h]
  · have := hx.block b hlt
    simp [World.frozen?, this, h]
theorem Box.ext {w w' : World} {b : Nat} {c : Array Value} (h : Box w b c) (hx : Ext w w') : Box w' b c :=
  ⟨fun _ hy => h.lt _ (hx.trans hy), fun _ hy => h.cell _ (hx.trans hy), fun _ hy => h.frozen _ (hx.trans hy), by
    obtain ⟨t, ht⟩ := h.hold
    exact ⟨t, by rw [hx.block b (h.lt w (Ext.refl _))]; exact ht⟩⟩

/-- one box was made -/
theorem boxed1 {w : World} {c : Array Value} {t : TypeId} {G : World → Prop}
    (h : ∀ w2, Ext w w2 → w2.heap.size = w.heap.size + 1 → Box w2 w.heap.size c → G w2) : G (w.alloc (.cells c t)) :=
  h _ (Ext.alloc _ _) (by simp) (Box.of (t := t) (by show (w.heap.push _)[w.heap.size]? = _; simp))
theorem boxed2 {w : World} {c d : Array Value} {tc td : TypeId} {G : World → Prop}
    (h : ∀ w2, Ext w w2 → w2.heap.size = w.heap.size + 1 + 1 → Box w2 w.heap.size c → Box w2 (w.heap.size + 1) d → G w2) : G ((w.alloc (.cells c tc)).alloc (.cells d td)) :=
  boxed1 (G := fun x => G (x.alloc (.cells d td))) fun w1 hx hs bc => by
    refine boxed1 fun w2 hx2 hs2 hb2 => ?_
    rw [hs] at hb2 hs2
    exact h w2 (hx.trans hx2) hs2 (bc.ext hx2) hb2
theorem boxed3 {w : World} {c d e : Array Value} {tc td te : TypeId} {G : World → Prop}
    (h : ∀ w2, Ext w w2 → w2.heap.size = w.heap.size + 1 + 1 + 1 → Box w2 w.heap.size c → Box w2 (w.heap.size + 1) d → Box w2 (w.heap.size + 1 + 1) e → G w2) : G (((w.alloc (.cells c tc)).alloc (.cells d td)).alloc (.cells e te)) :=
  boxed2 (G := fun x => G (x.alloc (.cells e te))) fun w1 hx hs bc bd => by
    refine boxed1 fun w2 hx2 hs2 hb2 => ?_
    rw [hs] at hb2 hs2
    exact h w2 (hx.trans hx2) hs2 (bc.ext hx2) (bd.ext hx2) hb2
theorem boxed4 {w : World} {c d e f : Array Value} {tc td te tf : TypeId} {G : World → Prop}
    (h : ∀ w2, Ext w w2 → w2.heap.size = w.heap.size + 1 + 1 + 1 + 1 → Box w2 w.heap.size c → Box w2 (w.heap.size + 1) d → Box w2 (w.heap.size + 1 + 1) e → Box w2 (w.heap.size + 1 + 1 + 1) f → G w2) : G ((((w.alloc (.cells c tc)).alloc (.cells d td)).alloc (.cells e te)).alloc (.cells f tf)) :=
  boxed3 (G := fun x => G (x.alloc (.cells f tf))) fun w1 hx hs bc bd be => by
    refine boxed1 fun w2 hx2 hs2 hb2 => ?_
    rw [hs] at hb2 hs2
    exact h w2 (hx.trans hx2) hs2 (bc.ext hx2) (bd.ext hx2) (be.ext hx2) hb2
theorem boxed5 {w : World} {c d e f g : Array Value} {tc td te tf tg : TypeId} {G : World → Prop}
    (h : ∀ w2, Ext w w2 → w2.heap.size = w.heap.size + 1 + 1 + 1 + 1 + 1 → Box w2 w.heap.size c → Box w2 (w.heap.size + 1) d → Box w2 (w.heap.size + 1 + 1) e → Box w2 (w.heap.size + 1 + 1 + 1) f → Box w2 (w.heap.size + 1 + 1 + 1 + 1) g → G w2) : G (((((w.alloc (.cells c tc)).alloc (.cells d td)).alloc (.cells e te)).alloc (.cells f tf)).alloc (.cells g tg)) :=
  boxed4 (G := fun x => G (x.alloc (.cells g tg))) fun w1 hx hs bc bd be bf => by
    refine boxed1 fun w2 hx2 hs2 hb2 => ?_
    rw [hs] at hb2 hs2
    exact h w2 (hx.trans hx2) hs2 (bc.ext hx2) (bd.ext hx2) (be.ext hx2) (bf.ext hx2) hb2
theorem boxed6 {w : World} {c d e f g u : Array Value} {tc td te tf tg tu : TypeId} {G : World → Prop}
    (h : ∀ w2, Ext w w2 → w2.heap.size = w.heap.size + 1 + 1 + 1 + 1 + 1 + 1 → Box w2 w.heap.size c → Box w2 (w.heap.size + 1) d → Box w2 (w.heap.size + 1 + 1) e → Box w2 (w.heap.size + 1 + 1 + 1) f → Box w2 (w.heap.size + 1 + 1 + 1 + 1) g → Box w2 (w.heap.size + 1 + 1 + 1 + 1 + 1) u → G w2) : G ((((((w.alloc (.cells c tc)).alloc (.cells d td)).alloc (.cells e te)).alloc (.cells f tf)).alloc (.cells g tg)).alloc (.cells u tu)) :=
  boxed5 (G := fun x => G (x.alloc (.cells u tu))) fun w1 hx hs bc bd be bf bg => by
    refine boxed1 fun w2 hx2 hs2 hb2 => ?_
    rw [hs] at hb2 hs2
    exact h w2 (hx.trans hx2) hs2 (bc.ext hx2) (bd.ext hx2) (be.ext hx2) (bf.ext hx2) (bg.ext hx2) hb2
theorem boxed7 {w : World} {c d e f g u v : Array Value} {tc td te tf tg tu tv : TypeId} {G : World → Prop}
    (h : ∀ w2, Ext w w2 → w2.heap.size = w.heap.size + 1 + 1 + 1 + 1 + 1 + 1 + 1 → Box w2 w.heap.size c → Box w2 (w.heap.size + 1) d → Box w2 (w.heap.size + 1 + 1) e → Box w2 (w.heap.size + 1 + 1 + 1) f → Box w2 (w.heap.size + 1 + 1 + 1 + 1) g → Box w2 (w.heap.size + 1 + 1 + 1 + 1 + 1) u → Box w2 (w.heap.size + 1 + 1 + 1 + 1 + 1 + 1) v → G w2) : G (((((((w.alloc (.cells c tc)).alloc (.cells d td)).alloc (.cells e te)).alloc (.cells f tf)).alloc (.cells g tg)).alloc (.cells u tu)).alloc (.cells v tv)) :=
  boxed6 (G := fun x => G (x.alloc (.cells v tv))) fun w1 hx hs bc bd be bf bg bu => by
    refine boxed1 fun w2 hx2 hs2 hb2 => ?_
    rw [hs] at hb2 hs2
    exact h w2 (hx.trans hx2) hs2 (bc.ext hx2) (bd.ext hx2) (be.ext hx2) (bf.ext hx2) (bg.ext hx2) (bu.ext hx2) hb2
theorem boxed8 {w : World} {c d e f g u v y : Array Value} {tc td te tf tg tu tv ty : TypeId} {G : World → Prop}
    (h : ∀ w2, Ext w w2 → w2.heap.size = w.heap.size + 1 + 1 + 1 + 1 + 1 + 1 + 1 + 1 → Box w2 w.heap.size c → Box w2 (w.heap.size + 1) d → Box w2 (w.heap.size + 1 + 1) e → Box w2 (w.heap.size + 1 + 1 + 1) f → Box w2 (w.heap.size + 1 + 1 + 1 + 1) g → Box w2 (w.heap.size + 1 + 1 + 1 + 1 + 1) u → Box w2 (w.heap.size + 1 + 1 + 1 + 1 + 1 + 1) v → Box w2 (w.heap.size + 1 + 1 + 1 + 1 + 1 + 1 + 1) y → G w2) : G ((((((((w.alloc (.cells c tc)).alloc (.cells d td)).alloc (.cells e te)).alloc (.cells f tf)).alloc (.cells g tg)).alloc (.cells u tu)).alloc (.cells v tv)).alloc (.cells y ty)) :=
  boxed7 (G := fun x => G (x.alloc (.cells y ty))) fun w1 hx hs bc bd be bf bg bu bv => by
    refine boxed1 fun w2 hx2 hs2 hb2 => ?_
    rw [hs] at hb2 hs2
    exact h w2 (hx.trans hx2) hs2 (bc.ext hx2) (bd.ext hx2) (be.ext hx2) (bf.ext hx2) (bg.ext hx2) (bu.ext hx2) (bv.ext hx2) hb2

theorem ret_eq {a b : Value} (h : a = b) : Ending.returned a = .returned b := by rw [h]
theorem ret_bool {a b : Bool} (h : a = b) : Ending.returned (.bool a) = .returned (.bool b) := by rw [h]
theorem ret_int {k : IntKind} {a b : Int} (h : a = b) : Ending.returned (.int k a) = .returned (.int k b) := by rw [h]

end Go.Proofs.Ytecgigeeolindaa
