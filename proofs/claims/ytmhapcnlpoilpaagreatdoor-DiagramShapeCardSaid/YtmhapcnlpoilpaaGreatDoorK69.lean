/- Plain: an event's column is one more than the greatest column of the events before it. -/
import Derived.Test.YtmhapcnlpoilpaaGreatDoorK18
namespace Go.Proofs.YtmhapcnlpoilpaaGreatDoor
theorem Tr.past_ltD {T : Tr} {f : NN → Int} (hf : ∀ x, T.V x → ∀ y, T.Dir y x → f y < f x) {x y : NN} (hy : T.V y) (h : T.Past y x) : f x ≤ f y ∧ (x ≠ y → f x < f y) := by
 induction h with
 | self => exact ⟨Int.le_refl _, fun h => absurd rfl h⟩
 | @step u z h d ih =>
  have := hf u (h.V hy) z d
  exact ⟨by omega, fun _ => by omega⟩
theorem Tr.Stamps.bef_ltD {T : Tr} {rows : Nat → List Int} (h : T.Stamps rows) {x y : NN} (hy : T.V y) (hb : T.Bef x y) : stOf rows x < stOf rows y :=
 (Tr.past_ltD (f := stOf rows) (fun _ hx _ hd => h.dir_lt hx hd) hy hb.2).2 hb.1
theorem Tr.Stamps.pred {T : Tr} {rows : Nat → List Int} (h : T.Stamps rows) {x : NN} (hx : T.V x) (h1 : 1 < stOf rows x) : ∃ y, T.V y ∧ T.Dir y x ∧ stOf rows y = stOf rows x - 1 := by
 have e' : stOf rows x = max (if x.2 = 0 then 0 else (rows x.1).getD (x.2 - 1) 0) (if T.kind x.1 x.2 = 3 then stOf rows (T.sndN x) else 0) + 1 := h.eq x.1 x.2 hx.1 hx.2
 have a : T.V (x.1, x.2 - 1) := ⟨hx.1, by show x.2 - 1 < T.en x.1; have := hx.2; omega⟩
 have d : x.2 ≠ 0 → T.Dir (x.1, x.2 - 1) x := fun h => .inl ⟨rfl, by show x.2 = x.2 - 1 + 1; omega⟩
 by_cases k3 : T.kind x.1 x.2 = 3
 ·rw [if_pos k3] at e'
  by_cases i0 : x.2 = 0
  ·rw [if_pos i0] at e'
   exact ⟨T.sndN x, Tr.sndN_V hx, .inr ⟨k3, rfl⟩, by omega⟩
  ·rw [if_neg i0] at e'
   by_cases c : stOf rows (T.sndN x) ≤ (rows x.1).getD (x.2 - 1) 0
   ·exact ⟨(x.1, x.2 - 1), a, d i0, by show (rows x.1).getD (x.2 - 1) 0 = _; omega⟩
   ·exact ⟨T.sndN x, Tr.sndN_V hx, .inr ⟨k3, rfl⟩, by omega⟩
 ·rw [if_neg k3] at e'
  by_cases i0 : x.2 = 0
  ·rw [if_pos i0] at e'; omega
  ·rw [if_neg i0] at e'
   exact ⟨(x.1, x.2 - 1), a, d i0, by show (rows x.1).getD (x.2 - 1) 0 = _; omega⟩
structure ColM (T : Tr) (rows : Nat → List Int) (x : NN) (q j : Nat) (m : Int) : Prop where
 le : ∀ y, T.V y → (y.1 < q ∨ (y.1 = q ∧ y.2 < j)) → T.Bef y x → stOf rows y - 1 ≤ m
 lo : -1 ≤ m
 at' : m = -1 ∨ ∃ y, T.V y ∧ T.Bef y x ∧ stOf rows y - 1 = m
theorem ColM.zero {T : Tr} {rows : Nat → List Int} {x : NN} : ColM T rows x 0 0 (-1) := ⟨fun y _ h => by omega, Int.le_refl _, .inl rfl⟩
theorem ColM.yes {T : Tr} {rows : Nat → List Int} {x : NN} {q j : Nat} {m : Int} (h : ColM T rows x q j m) (hv : T.V (q, j)) (hb : T.Bef (q, j) x) : ColM T rows x q (j + 1) (max m (stOf rows (q, j) - 1)) := by
 refine ⟨fun y hy hl hyb => ?_, by have := h.lo; omega, ?_⟩
 ·by_cases e : y = (q, j)
  ·subst e; omega
  ·have h1 := h.le y hy (by
     rcases hl with hl | ⟨h1, h2⟩
     ·exact .inl hl
     ·exact .inr ⟨h1, by
        have : y.2 ≠ j := fun h3 => e (Prod.ext h1 h3)
        omega⟩) hyb
   omega
 ·by_cases c : m ≤ stOf rows (q, j) - 1
  ·exact .inr ⟨(q, j), hv, hb, by omega⟩
  ·rcases h.at' with h1 | ⟨y, h1, h2, h3⟩
   ·exact .inl (by omega)
   ·exact .inr ⟨y, h1, h2, by omega⟩
theorem ColM.no {T : Tr} {rows : Nat → List Int} {x : NN} {q j : Nat} {m : Int} (h : ColM T rows x q j m) (hb : ¬ T.Bef (q, j) x) : ColM T rows x q (j + 1) m := by
 refine ⟨fun y hy hl hyb => ?_, h.lo, h.at'⟩
 have e : y ≠ (q, j) := fun e => hb (e ▸ hyb)
 refine h.le y hy ?_ hyb
 rcases hl with hl | ⟨h1, h2⟩
 ·exact .inl hl
 ·exact .inr ⟨h1, by
    have : y.2 ≠ j := fun h3 => e (Prod.ext h1 h3)
    omega⟩
theorem ColM.row {T : Tr} {rows : Nat → List Int} {x : NN} {q : Nat} {m : Int} (h : ColM T rows x q (T.en q) m) : ColM T rows x (q + 1) 0 m :=
 ⟨fun y hy hl hyb => h.le y hy (by
  rcases hl with hl | ⟨_, h2⟩
  ·by_cases e : y.1 = q
   ·exact .inr ⟨e, by have := hy.2; rw [e] at this; exact this⟩
   ·exact .inl (by omega)
  ·omega) hyb, h.lo, h.at'⟩
theorem ColM.done {T : Tr} {rows : Nat → List Int} {x : NN} {m : Int} (h : ColM T rows x T.n 0 m) (hs : T.Stamps rows) (hx : T.V x) : stOf rows x - 1 = m + 1 := by
 have s1 : ∀ y, T.V y → 1 ≤ stOf rows y := fun y hy => (hs.sm y.1 y.2 hy.1 hy.2).1
 have hx1 := s1 x hx
 have up : m + 1 ≤ stOf rows x - 1 := by
  rcases h.at' with h1 | ⟨y, h1, h2, h3⟩
  ·omega
  ·have := hs.bef_ltD hx h2; omega
 have dn : stOf rows x - 1 ≤ m + 1 := by
  by_cases c : 1 < stOf rows x
  ·obtain ⟨y, hy, hd, he⟩ := hs.pred hx c
   have hne : y ≠ x := fun e => by subst e; omega
   have := h.le y hy (.inl hy.1) ⟨hne, .step .self hd⟩
   omega
  ·have := h.lo; omega
 omega
end Go.Proofs.YtmhapcnlpoilpaaGreatDoor
