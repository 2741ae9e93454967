/- Plain: the longest chain to an event. -/
import Derived.Test.YtecgigeeolindaaRev
namespace Go.Proofs.Ytecgigeeolindaa
open Go.RowKit Go.Shelf

abbrev stOf (rows : Nat → List Int) (x : NN) : Int := (rows x.1).getD x.2 0
open Classical in
/-- the event before x in the longest chain -/
noncomputable def Tr.prv (T : Tr) (rows : Nat → List Int) (x : NN) : NN := if 0 < x.2 ∧ stOf rows (x.1, x.2 - 1) = stOf rows x - 1 then (x.1, x.2 - 1) else T.sndN x
theorem Tr.Stamps.prv {T : Tr} {rows : Nat → List Int} (h : T.Stamps rows) {x : NN} (hx : T.V x) (h1 : 1 < stOf rows x) :
    T.V (T.prv rows x) ∧ T.Dir (T.prv rows x) x ∧ stOf rows (T.prv rows x) = stOf rows x - 1 ∧ (¬ (0 < x.2 ∧ stOf rows (x.1, x.2 - 1) = stOf rows x - 1) → T.kind x.1 x.2 = 3) := by
  have he := h.eq x.1 x.2 hx.1 hx.2
  change stOf rows x = _ at he
  by_cases hc : 0 < x.2 ∧ stOf rows (x.1, x.2 - 1) = stOf rows x - 1
  · have e : T.prv rows x = (x.1, x.2 - 1) := by unfold Tr.prv; rw [if_pos hc]
    rw [e]
    exact ⟨⟨hx.1, Nat.lt_of_le_of_lt (Nat.sub_le _ _) hx.2⟩, .inl ⟨rfl, by show x.2 = x.2 - 1 + 1; omega⟩, hc.2, fun h => absurd hc h⟩
  · have e : T.prv rows x = T.sndN x := by unfold Tr.prv; rw [if_neg hc]
    rw [e]
    have k3 : T.kind x.1 x.2 = 3 := by
      refine Classical.byContradiction fun k3 => ?_
      rw [if_neg k3] at he
      by_cases h0 : x.2 = 0
      · rw [if_pos h0] at he; omega
      · rw [if_neg h0] at he
        have : stOf rows (x.1, x.2 - 1) = (rows x.1).getD (x.2 - 1) 0 := rfl
        exact hc ⟨by omega, by omega⟩
    refine ⟨Tr.sndN_V hx, .inr ⟨k3, rfl⟩, ?_, fun _ => k3⟩
    rw [if_pos k3] at he
    have e2 : stOf rows (T.sndN x) = (rows (T.sndN (x.1, x.2)).1).getD (T.sndN (x.1, x.2)).2 0 := rfl
    by_cases h0 : x.2 = 0
    · rw [if_pos h0] at he; omega
    · rw [if_neg h0] at he
      have e3 : stOf rows (x.1, x.2 - 1) = (rows x.1).getD (x.2 - 1) 0 := rfl
      have : ¬ (rows x.1).getD (x.2 - 1) 0 = stOf rows x - 1 := fun h => hc ⟨by omega, by omega⟩
      omega
/-- j events back -/
noncomputable def Tr.prvN (T : Tr) (rows : Nat → List Int) (x : NN) : Nat → NN
  | 0 => x
  | j + 1 => T.prv rows (T.prvN rows x j)
theorem Tr.Stamps.prvN {T : Tr} {rows : Nat → List Int} (h : T.Stamps rows) {x : NN} (hx : T.V x) : ∀ j : Nat, (j : Int) < stOf rows x → T.V (T.prvN rows x j) ∧ stOf rows (T.prvN rows x j) = stOf rows x - j
  | 0, _ => ⟨hx, by simp [Tr.prvN]⟩
  | j + 1, hj => by
    obtain ⟨h1, h2⟩ := h.prvN hx j (by omega)
    obtain ⟨h3, _, h4, _⟩ := h.prv h1 (by omega)
    exact ⟨h3, by show stOf rows (T.prv rows _) = _; rw [h4, h2]; omega⟩
/-- x and the j events before it in the chain -/
noncomputable def Tr.lng (T : Tr) (rows : Nat → List Int) (x : NN) (j : Nat) : List (Int × Int) := (List.range (j + 1)).map fun i => evI (T.prvN rows x i)
theorem Tr.lng_zero (T : Tr) (rows : Nat → List Int) (x : NN) : T.lng rows x 0 = [evI x] := rfl
theorem Tr.lng_succ (T : Tr) (rows : Nat → List Int) (x : NN) (j : Nat) : T.lng rows x (j + 1) = T.lng rows x j ++ [evI (T.prvN rows x (j + 1))] := by
  unfold Tr.lng; rw [List.range_succ (n := j + 1), List.map_append]; rfl
theorem Tr.lng_len (T : Tr) (rows : Nat → List Int) (x : NN) (j : Nat) : (T.lng rows x j).length = j + 1 := by simp [Tr.lng]
theorem Tr.lng_get (T : Tr) (rows : Nat → List Int) (x : NN) (j i : Nat) (h : i < (T.lng rows x j).length) : (T.lng rows x j)[i] = evI (T.prvN rows x i) := by simp [Tr.lng]

theorem StS.same {base bS n : Nat} {rows : Nat → List Int} {vs : Nat → Value} {w w' : World} (h : StS base bS n rows vs w) (h0 : 0 < n) (hb : base ≤ bS) (hs : ∀ g, base ≤ g → g < w.heap.size → w'.heap[g]? = w.heap[g]?) : StS base bS n rows vs w' := by
  have hbS := hs bS hb (cell_lt (h.cell 0 h0))
  exact ⟨h.hn, fun k hk => (World.cell?_of_block (w := w) (a := ⟨bS, k, none⟩) hbS).trans (h.cell k hk), fun k => (World.frozen?_of_block (w := w) (a := ⟨bS, k, none⟩) hbS).trans (h.froz k),
    fun k hk => (h.own k hk).same fun g e => hs g ((h.own k hk).block g e) ((h.own k hk).lt g e), h.apart, h.off, h.len⟩

end Go.Proofs.Ytecgigeeolindaa
