/- Plain: the longest chain to an event. Contract: lamport.Longest. Contract: lamport.Longest, at an event that exists. -/
import Derived.Test.YtnknkkmdbnaglaaGreatKg
import Derived.Test.YtnknkkmdbnaglaaGreatKa
namespace Go.Proofs.YtnknkkmdbnaglaaGreat
open Go.RowKit Go.Shelf
abbrev stOf (rows : Nat → List Int) (x : NN) : Int := (rows x.1).getD x.2 0
end Go.Proofs.YtnknkkmdbnaglaaGreat

namespace Go.Proofs.YtnknkkmdbnaglaaGreat
open Go.RowKit Go.Shelf
structure Only (b : Nat) (w w' : World) : Prop where
 os : w'.os = w.os
 tape : w'.tape = w.tape
 output : w'.output = w.output
 size : w'.heap.size = w.heap.size
 block : ∀ g, g ≠ b → w'.heap[g]? = w.heap[g]?
theorem Only.set (b : Nat) (w : World) (i : Nat) (v : Value) : Only b w (w.setCell ⟨b, i, none⟩ v) := ⟨rfl, rfl, rfl, World.size_setCell _ _ _, fun _ h => Below.heap_setCell _ _ _ _ h⟩
theorem Only.trans {b : Nat} {w w' w'' : World} (h : Only b w w') (k : Only b w' w'') : Only b w w'' :=
 ⟨k.os.trans h.os, k.tape.trans h.tape, k.output.trans h.output, k.size.trans h.size, fun g hg => (k.block g hg).trans (h.block g hg)⟩
theorem Only.below {b B : Nat} {w w' : World} (h : Only b w w') (hb : B ≤ b) : Below B w w' := ⟨h.os, h.tape, h.output, Nat.le_of_eq h.size.symm, fun g hg => h.block g (by omega)⟩
theorem Only.hold {b g : Nat} {w w' : World} {c : Array Value} (h : Only b w w') (k : Hold w g c) (hg : g ≠ b) : Hold w' g c := by
 obtain ⟨t, k⟩ := k; exact ⟨t, (h.block g hg).trans k⟩
theorem EvOwn.row {w : World} {base : Nat} {v : Value} {l : List (Int × Int)} (h : EvOwn w base v l) (h0 : 0 < l.length) : ∃ g cap, v = .slice (some ⟨g, 0, none⟩) l.length cap ∧ base ≤ g ∧ EvRow w g l.length (fun k => l.getD k (0, 0)) := by
 obtain ⟨h1, ⟨hv, hn⟩ | ⟨g, cap, cur, hv, hg, hh, hc, hm, hs, ht⟩⟩ := h
 ·omega
 ·have hb := Box.of hh
  have hget : ∀ j, j < l.length * 2 → cur[j]? = (evCells l)[j]? := by
   intro j hj
   rw [← ht, List.getElem?_take_of_lt hj]; simp
  refine ⟨g, cap, hv, hg, fun k hk => ?_, fun k hk => ?_, fun o => hb.frozen w (Ext.refl _) o⟩
  ·rw [hb.cell w (Ext.refl _), hget _ (by omega), evCells_get0 l k hk, List.getD_eq_getElem?_getD, List.getElem?_eq_getElem hk]; rfl
  ·rw [hb.cell w (Ext.refl _), hget _ (by omega), evCells_get1 l k hk, List.getD_eq_getElem?_getD, List.getElem?_eq_getElem hk]; rfl
end Go.Proofs.YtnknkkmdbnaglaaGreat

namespace Go.Proofs.YtnknkkmdbnaglaaGreat
open Go.RowKit Go.Shelf
theorem evOwn_one {w : World} {base g : Nat} {x y : Int} (h : w.heap[g]? = some (.cells #[.int .i64 x, .int .i64 y] 110 (0, 0))) (hb : base ≤ g) : EvOwn w base (.slice (some ⟨g, 0, none⟩) 1 1) [(x, y)] :=
 ⟨rfl, .inr ⟨g, 1, _, rfl, hb, h, Nat.le_refl _, by unfold maxLen; omega, rfl, rfl⟩⟩
theorem setd2 {w : World} {p q : Addr} {v u : Value} {G : World → Prop} (h : ∀ w5, w5 = (w.setCell p v).setCell q u → G w5) : G ((w.setCell p v).setCell q u) := h _ rfl
end Go.Proofs.YtnknkkmdbnaglaaGreat
