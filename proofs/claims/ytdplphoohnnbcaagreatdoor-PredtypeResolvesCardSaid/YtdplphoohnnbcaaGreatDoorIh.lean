/- For causality.Order: the events by number, happened-before, the rows of later events. -/
import Derived.Test.YtdplphoohnnbcaaGreatDoorIf
import Derived.Test.YtdplphoohnnbcaaGreatDoorIg
namespace Go.Proofs.YtdplphoohnnbcaaGreatDoor
open Go.RowKit Go.Shelf

/-- event number k -/
def Tr.evN (T : Tr) (k : Nat) : NN := (T.evs.map (·.1)).getD k (0, 0)
theorem Tr.evN_get (T : Tr) (k : Nat) (h : k < T.evs.length) : T.evN k = (T.evs[k]).1 := by
  unfold Tr.evN; rw [List.getD_eq_getElem?_getD, List.getElem?_eq_getElem (by simpa using h)]; simp
theorem Tr.evN_V (T : Tr) (k : Nat) (h : k < T.evs.length) : T.V (T.evN k) := by
  rw [T.evN_get k h]; exact T.evs[k].2
/-- number i happened before number j -/
def Tr.bef (T : Tr) (i j : Nat) : Prop := T.evN i ≠ T.evN j ∧ T.Past (T.evN j) (T.evN i)
open Classical in
/-- the numbers below j of the events after number i -/
noncomputable def Tr.lat (T : Tr) (j i : Nat) : List Int := ((List.range j).filter fun k => decide (T.bef i k)).map fun (k : Nat) => (k : Int)
theorem Tr.lat_zero (T : Tr) (i : Nat) : T.lat 0 i = [] := rfl
theorem Tr.lat_yes {T : Tr} {j i : Nat} (h : T.bef i j) : T.lat (j + 1) i = T.lat j i ++ [(j : Int)] := by
  unfold Tr.lat; rw [List.range_succ, List.filter_append, List.map_append]; simp [h]
theorem Tr.lat_no {T : Tr} {j i : Nat} (h : ¬ T.bef i j) : T.lat (j + 1) i = T.lat j i := by
  unfold Tr.lat; rw [List.range_succ, List.filter_append, List.map_append]; simp [h]
theorem Tr.lat_len (T : Tr) (j i : Nat) : (T.lat j i).length ≤ j := by
  unfold Tr.lat; rw [List.length_map]
  exact Nat.le_trans (List.length_filter_le _ _) (by simp)
open Classical in
theorem Tr.lat_mem {T : Tr} {j i : Nat} {x : Int} : x ∈ T.lat j i ↔ ∃ k : Nat, k < j ∧ T.bef i k ∧ x = k := by
  unfold Tr.lat
  constructor
  · intro h
    obtain ⟨k, hk, rfl⟩ := List.mem_map.1 h
    have := List.mem_filter.1 hk
    exact ⟨k, List.mem_range.1 this.1, of_decide_eq_true this.2, rfl⟩
  · rintro ⟨k, h1, h2, rfl⟩
    exact List.mem_map.2 ⟨k, List.mem_filter.2 ⟨List.mem_range.2 h1, decide_eq_true h2⟩, rfl⟩
/-- the rows while they grow: row k has the numbers up to j if k < i, else below j -/
noncomputable def Tr.rowsAt (T : Tr) (j i : Nat) : Nat → List Int := fun k => if k < i then T.lat (j + 1) k else T.lat j k
theorem Tr.rowsAt_zero (T : Tr) (j : Nat) : T.rowsAt j 0 = T.lat j := by funext k; unfold Tr.rowsAt; rw [if_neg (by omega)]
theorem Tr.rowsAt_self (T : Tr) (j i : Nat) : T.rowsAt j i i = T.lat j i := by unfold Tr.rowsAt; rw [if_neg (by omega)]
theorem Tr.rowsAt_yes {T : Tr} {j i : Nat} (h : T.bef i j) : updR (T.rowsAt j i) i (T.rowsAt j i i ++ [(j : Int)]) = T.rowsAt j (i + 1) := by
  funext k
  unfold updR
  by_cases e : k = i
  · subst e; rw [if_pos rfl, Tr.rowsAt_self]; unfold Tr.rowsAt; rw [if_pos (by omega), Tr.lat_yes h]
  · rw [if_neg e]; unfold Tr.rowsAt
    by_cases h2 : k < i
    · rw [if_pos h2, if_pos (by omega)]
    · rw [if_neg h2, if_neg (by omega)]
theorem Tr.rowsAt_no {T : Tr} {j i : Nat} (h : ¬ T.bef i j) : T.rowsAt j i = T.rowsAt j (i + 1) := by
  funext k
  by_cases e : k = i
  · subst e; rw [Tr.rowsAt_self]; unfold Tr.rowsAt; rw [if_pos (by omega), Tr.lat_no h]
  · unfold Tr.rowsAt
    by_cases h2 : k < i
    · rw [if_pos h2, if_pos (by omega)]
    · rw [if_neg h2, if_neg (by omega)]
theorem StS.congr {base bS n : Nat} {r r' : Nat → List Int} {vs : Nat → Value} {w : World} (h : StS base bS n r vs w) (he : ∀ k, k < n → r k = r' k) : StS base bS n r' vs w :=
  ⟨h.hn, h.cell, h.froz, fun k hk => by rw [← he k hk]; exact h.own k hk, h.apart, h.off, fun k hk => by rw [← he k hk]; exact h.len k hk⟩
/-- block z is none of the rows' -/
structure Far (bS n : Nat) (vs : Nat → Value) (w : World) (z : Nat) : Prop where
  ne : z ≠ bS
  lt : z < w.heap.size
  row : ∀ k, k < n → (vs k).ownBlock ≠ some z
theorem Far.push {bS n p : Nat} {vs : Nat → Value} {w w' : World} {z : Nat} {v' : Value} {c : Array Value} {t : TypeId} (h : Far bS n vs w z) (hp : p < n) (hg : (w.alloc (.cells c t)).grownBy w' (vs p).ownBlock)
    (hat : v'.ownBlock = (vs p).ownBlock ∨ v'.ownBlock = some (w.alloc (.cells c t)).heap.size) : Far bS n (updV vs p v') (w'.setCell ⟨bS, p, none⟩ v') z ∧ (w'.setCell ⟨bS, p, none⟩ v').heap[z]? = w.heap[z]? := by
  have hz : w'.heap[z]? = w.heap[z]? := by
    rw [hg.block z (by rw [World.size_alloc]; have := h.lt; omega) (fun e => h.row p hp e.symm), Below.heap_alloc _ _ _ h.lt]
  refine ⟨⟨h.ne, by rw [World.size_setCell]; have := hg.size; rw [World.size_alloc] at this; have := h.lt; omega, fun k hk e => ?_⟩, (Below.heap_setCell _ _ _ _ h.ne).trans hz⟩
  unfold updV at e
  by_cases ek : k = p
  · rw [if_pos ek] at e
    rcases hat with h1 | h1
    · exact h.row p hp (h1 ▸ e)
    · rw [h1, World.size_alloc] at e; have := h.lt; simp at e; omega
  · rw [if_neg ek] at e; exact h.row k hk e
theorem Far.ext {bS n : Nat} {vs : Nat → Value} {w w' : World} {z : Nat} (h : Far bS n vs w z) (x : Ext w w') : Far bS n vs w' z := ⟨h.ne, Nat.lt_of_lt_of_le h.lt x.le, h.row⟩
/-- a new block is far -/
theorem Far.new {base bS n : Nat} {rows : Nat → List Int} {vs : Nat → Value} {w w' : World} {z : Nat} (h : StS base bS n rows vs w) (h0 : 0 < n) (hz : w.heap.size ≤ z) (hz' : z < w'.heap.size) : Far bS n vs w' z :=
  ⟨by have : bS < w.heap.size := cell_lt (h.cell 0 h0); omega, hz', fun k hk e => by have := (h.own k hk).lt z e; omega⟩
theorem Hold.at {w w' : World} {b : Nat} {c : Array Value} (h : Hold w b c) (e : w'.heap[b]? = w.heap[b]?) : Hold w' b c := by
  obtain ⟨t, h⟩ := h; exact ⟨t, e.trans h⟩

/-- sets in a row, two cells each -/
def setRow (S : Nat → SetM) : Nat → List Value
  | 0 => []
  | n + 1 => setRow S n ++ [.int .i64 (S n).N, .slice (S n).a (S n).m (S n).cap]
theorem setRow_len (S : Nat → SetM) : ∀ n, (setRow S n).length = n * 2
  | 0 => rfl
  | n + 1 => by rw [setRow, List.length_append, setRow_len S n]; simp; omega
theorem setRow_get (S : Nat → SetM) : ∀ (n k : Nat), k < n → (setRow S n)[k * 2]? = some (.int .i64 (S k).N) ∧ (setRow S n)[k * 2 + 1]? = some (.slice (S k).a (S k).m (S k).cap)
  | 0, _, h => by omega
  | n + 1, k, h => by
    rw [setRow]
    have hl := setRow_len S n
    by_cases e : k < n
    · have := setRow_get S n k e
      rw [List.getElem?_append_left (by omega), List.getElem?_append_left (by omega)]; exact this
    · obtain rfl : k = n := by omega
      rw [List.getElem?_append_right (by omega), List.getElem?_append_right (by omega), hl, show k * 2 - k * 2 = 0 by omega, show k * 2 + 1 - k * 2 = 1 by omega]
      exact ⟨rfl, rfl⟩
theorem setRow_congr {S S' : Nat → SetM} : ∀ {n : Nat}, (∀ k, k < n → S k = S' k) → setRow S n = setRow S' n
  | 0, _ => rfl
  | n + 1, h => by rw [setRow, setRow, setRow_congr (n := n) fun k hk => h k (by omega), h n (by omega)]
theorem SetM.At.same {S : SetM} {w w' : World} (h : S.At w) (hs : w.heap.size ≤ w'.heap.size) (e : 0 < S.m → w'.heap[S.b]? = w.heap[S.b]?) : S.At w' := by
  refine ⟨h.hm, h.pa, fun h0 w2 x => Nat.lt_of_lt_of_le (h.pb h0 w (Ext.refl _)) (Nat.le_trans hs x.le), fun w2 x k hk => ?_, h.u⟩
  have hb := h.pb (by omega) w (Ext.refl _)
  have e1 : w2.heap[S.b]? = w.heap[S.b]? := (x.block _ (by omega)).trans (e (by omega))
  rw [World.cell?_of_block (w := w) (a := ⟨S.b, S.off + k, none⟩) e1]; exact h.p0 w (Ext.refl _) k hk
def updS (S : Nat → SetM) (n : Nat) (s : SetM) : Nat → SetM := fun k => if k = n then s else S k
/-- a relation on N numbers in memory -/
structure RelAt (a : Option Addr) (g N cap : Nat) (S : Nat → SetM) (bit : Nat → Nat → Prop) (w : World) : Prop where
  pa : 0 < N → a = some ⟨g, 0, none⟩
  pb : 0 < N → ∀ w', Ext w w' → g < w'.heap.size
  c0 : ∀ w', Ext w w' → ∀ k, k < N → w'.cell? ⟨g, k * 2, none⟩ = some (.int .i64 (S k).N)
  c1 : ∀ w', Ext w w' → ∀ k, k < N → w'.cell? ⟨g, k * 2 + 1, none⟩ = some (.slice (S k).a (S k).m (S k).cap)
  set : ∀ k, k < N → (S k).At w ∧ (S k).Good N
  bit : ∀ k i, k < N → i < N → (((S k).wd (i / 64)).testBit (i % 64) = true ↔ bit k i)
theorem RelAt.same {a : Option Addr} {g N cap : Nat} {S : Nat → SetM} {bit : Nat → Nat → Prop} {w w' : World} (h : RelAt a g N cap S bit w) (x : Ext w w') : RelAt a g N cap S bit w' :=
  ⟨h.pa, fun h0 w2 y => h.pb h0 w2 (x.trans y), fun w2 y => h.c0 w2 (x.trans y), fun w2 y => h.c1 w2 (x.trans y), fun k hk => ⟨(h.set k hk).1.ext x, (h.set k hk).2⟩, h.bit⟩

end Go.Proofs.YtdplphoohnnbcaaGreatDoor
