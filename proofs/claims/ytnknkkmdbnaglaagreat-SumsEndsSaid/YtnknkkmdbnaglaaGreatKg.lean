/- Plain: direct causes, induction along them; stamps that are given one after the other. The events ahead of an event. Plain. Contract: lamport.Stamps. Contract: slices.Reverse at EventId. -/
import Derived.Test.YtnknkkmdbnaglaaGreatKf
import Derived.Deep.LoopGhost
namespace Go.Proofs.YtnknkkmdbnaglaaGreat
open Go.RowKit Go.Shelf
theorem Ltr.of_from {T : Tr} : ∀ (l : List T.Id) (L : Ltr) (m : Nat), ((l.foldl (Ltr.step T) L).ti m = L.ti m ∧ (l.foldl (Ltr.step T) L).tp m = L.tp m) ∨ ∃ x, x ∈ l ∧ T.kind x.1.1 x.1.2 = 3 ∧ (T.msg x.1.1 x.1.2).toNat = m ∧ (l.foldl (Ltr.step T) L).tp m = x.1.1 ∧ (l.foldl (Ltr.step T) L).ti m = x.1.2 + 1
 | [], _, _ => .inl ⟨rfl, rfl⟩
 | a :: l, L, m => by
  rw [List.foldl_cons]
  rcases Ltr.of_from l (Ltr.step T L a) m with ⟨h1, h2⟩ | ⟨x, hx, h⟩
  ·rw [h1, h2]
   by_cases k2 : T.kind a.1.1 a.1.2 = 2
   ·left; unfold Ltr.step; rw [if_pos k2]; exact ⟨rfl, rfl⟩
   ·by_cases k3 : T.kind a.1.1 a.1.2 = 3
    ·by_cases hm : (T.msg a.1.1 a.1.2).toNat = m
     ·right; refine ⟨a, List.mem_cons_self, k3, hm, ?_⟩
      unfold Ltr.step; rw [if_neg k2, if_pos k3]; simp [upd, hm]
     ·left; unfold Ltr.step; rw [if_neg k2, if_pos k3]; simp [upd, Ne.symm hm]
    ·left; unfold Ltr.step; rw [if_neg k2, if_neg k3]; exact ⟨rfl, rfl⟩
  ·exact .inr ⟨x, List.mem_cons_of_mem _ hx, h⟩
theorem Tr.Valid.letter {T : Tr} (h : T.Valid) (y : T.Id) (hy : T.kind y.1.1 y.1.2 = 3) : (Ltr.of T T.evs).tp (T.msg y.1.1 y.1.2).toNat = y.1.1 ∧ (Ltr.of T T.evs).ti (T.msg y.1.1 y.1.2).toNat = y.1.2 + 1 := by
 have hf := h.formed y
 have hp := Ltr.of_ti h.formed T.evs Ltr.zero (T.msg y.1.1 y.1.2).toNat (.inr ⟨y, evs_all y, hy, by rcases hf with h | h <;> omega⟩)
 rcases Ltr.of_from T.evs Ltr.zero (T.msg y.1.1 y.1.2).toNat with ⟨h1, _⟩ | ⟨x, _, k3, hm, h1, h2⟩
 ·rw [h1] at hp; exact absurd hp (by simp [Ltr.zero])
 ·have hfx := h.formed x
  have : x = y := h.uniq3 k3 hy (by rcases hf with h | h <;> rcases hfx with h' | h' <;> omega)
  subst this; exact ⟨h1, h2⟩
def Tr.Dir (T : Tr) (x y : NN) : Prop := (y.1 = x.1 ∧ y.2 = x.2 + 1) ∨ (T.kind y.1 y.2 = 3 ∧ x = T.sndN y)
theorem Tr.sndN_V {T : Tr} {y : NN} (hy : T.V y) : T.V (T.sndN y) := by
 have := T.sndN_eq ⟨y, hy⟩
 simp only at this
 rw [this]; exact (T.snd ⟨y, hy⟩).2
theorem Tr.Valid.sndN {T : Tr} (h : T.Valid) {y : NN} (hy : T.V y) (k3 : T.kind y.1 y.2 = 3) : T.kind (T.sndN y).1 (T.sndN y).2 = 2 ∧ T.msg (T.sndN y).1 (T.sndN y).2 = T.msg y.1 y.2 := by
 have := T.sndN_eq ⟨y, hy⟩
 simp only at this
 rw [this]; exact (h.snd ⟨y, hy⟩ k3).2
theorem Tr.Dir.V {T : Tr} {x y : NN} (hy : T.V y) (h : T.Dir x y) : T.V x := by
 rcases h with ⟨h1, h2⟩ | ⟨_, h⟩
 ·obtain ⟨a, b⟩ := hy; rw [h1] at a b; exact ⟨a, by omega⟩
 ·rw [h]; exact Tr.sndN_V hy
theorem Tr.Valid.dir_succ {T : Tr} (h : T.Valid) {x y : NN} (hy : T.V y) (hd : T.Dir x y) : y ∈ T.succ (Ltr.of T T.evs) x := by
 unfold Tr.succ
 rcases hd with ⟨h1, h2⟩ | ⟨k3, he⟩
 ·have hlt : x.2 + 1 < T.en x.1 := by rw [← h1, ← h2]; exact hy.2
  rw [if_pos hlt]
  exact List.mem_append_left _ (List.mem_singleton.2 (Prod.ext h1 h2))
 ·subst he
  obtain ⟨k2, hm⟩ := h.sndN hy k3
  have hl := h.letter ⟨y, hy⟩ k3
  simp only at hl
  rw [hm]
  refine List.mem_append_right _ ?_
  rw [if_pos ⟨k2, by rw [hl.2]; omega⟩, hl.1, hl.2]
  refine List.mem_singleton.2 (Prod.ext ?_ ?_)
  ·simp
  ·simp
theorem Tr.Valid.ind {T : Tr} (h : T.Valid) {P : NN → Prop} (step : ∀ y, T.V y → (∀ x, T.V x → T.Dir x y → P x) → P y) : ∀ y, T.V y → P y := by
 refine fun y0 hy0 => Classical.byContradiction fun hn0 => ?_
 have key : ∀ n, ∃ (z : NN) (S : List NN), (z :: S).Nodup ∧ S.length = n ∧ ¬ P z ∧ (∀ u, u ∈ z :: S → T.V u) ∧ ∀ u, u ∈ S → Path (T.succ (Ltr.of T T.evs)) z u := by
  intro n
  induction n with
  | zero => exact ⟨y0, [], by simp, rfl, hn0, by simpa using hy0, by simp⟩
  | succ n ih =>
   obtain ⟨z, S, hnd, hl, hz, hv, hp⟩ := ih
   have hvz := hv z List.mem_cons_self
   obtain ⟨x, hx, hd, hnx⟩ : ∃ x, T.V x ∧ T.Dir x z ∧ ¬ P x := Classical.byContradiction fun hc => hz (step z hvz fun x hx hd => Classical.byContradiction fun hnx => hc ⟨x, hx, hd, hnx⟩)
   have hs := h.dir_succ hvz hd
   have hpx : ∀ u, u ∈ z :: S → Path (T.succ (Ltr.of T T.evs)) x u := by
    intro u hu
    rcases List.mem_cons.1 hu with e | hu
    ·subst e; exact Path.one hs
    ·obtain ⟨k, hk⟩ := hp u hu; exact ⟨k + 1, z, hs, hk⟩
   refine ⟨x, z :: S, ?_, by simp [hl], hnx, ?_, hpx⟩
   ·refine List.nodup_cons.2 ⟨fun hm => h.acy ⟨⟨x, hx⟩, hpx x hm⟩, hnd⟩
   ·intro u hu
    rcases List.mem_cons.1 hu with e | hu
    ·subst e; exact hx
    ·exact hv u hu
 obtain ⟨z, S, hnd, hl, _, hv, _⟩ := key T.evs.length
 have := evs_count hnd hv
 simp at this; omega
def tot (f : Nat → Nat) : Nat → Nat | 0 => 0 | n + 1 => tot f n + f n
theorem tot_le {f g : Nat → Nat} : ∀ {n : Nat}, (∀ k, k < n → f k ≤ g k) → tot f n ≤ tot g n
 | 0, _ => Nat.le_refl _
 | n + 1, h => Nat.add_le_add (tot_le fun k hk => h k (by omega)) (h n (by omega))
theorem tot_congr {f g : Nat → Nat} : ∀ {n : Nat}, (∀ k, k < n → f k = g k) → tot f n = tot g n
 | 0, _ => rfl
 | n + 1, h => by unfold tot; rw [tot_congr fun k hk => h k (by omega), h n (by omega)]
theorem tot_small {f : Nat → Nat} {c : Nat} : ∀ {n : Nat}, (∀ k, k < n → f k ≤ c) → tot f n ≤ n * c
 | 0, _ => by simp [tot]
 | n + 1, h => by unfold tot; rw [Nat.succ_mul]; exact Nat.add_le_add (tot_small fun k hk => h k (by omega)) (h n (by omega))
def Tr.left (T : Tr) (rows : Nat → List Int) : Nat := tot T.en T.n - tot (fun k => (rows k).length) T.n
end Go.Proofs.YtnknkkmdbnaglaaGreat

namespace Go.Proofs.YtnknkkmdbnaglaaGreat
open Go.RowKit
theorem Tr.evsTo_mem {T : Tr} {k i : Nat} {x : T.Id} (h : x ∈ T.evsTo k i) : x.1.1 < k ∨ (x.1.1 = k ∧ x.1.2 < i) := by
 unfold Tr.evsTo at h
 rcases List.mem_append.1 h with h | h
 ·obtain ⟨p, hp, h⟩ := List.mem_flatMap.1 h
  obtain ⟨j, hj, h⟩ := List.mem_filterMap.1 h
  unfold Tr.mk? at h
  split at h
  ·cases h; exact .inl (List.mem_range.1 hp)
  ·cases h
 ·obtain ⟨j, hj, h⟩ := List.mem_filterMap.1 h
  unfold Tr.mk? at h
  split at h
  ·cases h; exact .inr ⟨rfl, List.mem_range.1 hj⟩
  ·cases h
theorem Tr.evsTo_tot (T : Tr) : ∀ (k i : Nat), k < T.n → i ≤ T.en k → (T.evsTo k i).length = tot T.en k + i
 | 0, 0, _, _ => rfl
 | k + 1, 0, hk, _ => by rw [← Tr.evsTo_next, Tr.evsTo_tot T k (T.en k) (by omega) (Nat.le_refl _)]; rfl
 | k, i + 1, hk, hi => by rw [Tr.evsTo_succ _ _ _ hk hi, List.length_append, Tr.evsTo_tot T k i hk (by omega)]; rfl
theorem Tr.evs_tot (T : Tr) : T.evs.length = tot T.en T.n := by
 unfold Tr.evs
 cases h : T.n with
 | zero => rfl
 | succ n => rw [← Tr.evsTo_next, Tr.evsTo_tot T n (T.en n) (by omega) (Nat.le_refl _)]; rfl
end Go.Proofs.YtnknkkmdbnaglaaGreat

namespace Go.Proofs.YtnknkkmdbnaglaaGreat
open Go.RowKit Go.Shelf
theorem infoInts : (Tryz.prog.info? 28).map (fun i => (i.zero, i.size, i.bytes)) = some (some (.slice none 0 0), 1, 24) := by kernel_rfl
end Go.Proofs.YtnknkkmdbnaglaaGreat

namespace Go.Proofs.YtnknkkmdbnaglaaGreat
open Go.RowKit Go.Shelf
structure EvRow (w : World) (g n : Nat) (f : Nat → Int × Int) : Prop where
 c0 : ∀ k, k < n → w.cell? ⟨g, k * 2, none⟩ = some (.int .i64 (f k).1)
 c1 : ∀ k, k < n → w.cell? ⟨g, k * 2 + 1, none⟩ = some (.int .i64 (f k).2)
 fr : ∀ o, w.frozen? ⟨g, o, none⟩ = false
end Go.Proofs.YtnknkkmdbnaglaaGreat
