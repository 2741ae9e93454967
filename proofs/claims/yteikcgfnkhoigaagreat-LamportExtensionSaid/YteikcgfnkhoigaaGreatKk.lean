/- For causality.Order: the events by number, happened-before, the rows of later events. Contract: causality.Order. Contracts: slices.Grow (from nil) and slices.Concat at []int. Contract: lamport.Skipped. -/
import Derived.Test.YteikcgfnkhoigaaGreatKj
import Derived.Test.YteikcgfnkhoigaaGreatKi
import Derived.Lib.AppendZeros
import Derived.Lib.QuietBelow
namespace Go.Proofs.YteikcgfnkhoigaaGreat
open Go.RowKit Go.Shelf

/-- event number k -/
def Tr.evN (T : Tr) (k : Nat) : NN := (T.evs.map (·.1)).getD k (0, 0)
theorem Tr.evN_get (T : Tr) (k : Nat) (h : k < T.evs.length) : T.evN k = (T.evs[k]).1 := by
  unfold Tr.evN; rw [List.getD_eq_getElem?_getD, List.getElem?_eq_getElem (by simpa using h)]; simp
theorem Tr.evN_V (T : Tr) (k : Nat) (h : k < T.evs.length) : T.V (T.evN k) := by
  rw [T.evN_get k h]; exact T.evs[k].2
/-- number i happened before number j -/
def Tr.bef (T : Tr) (i j : Nat) : Prop := T.evN i ≠ T.evN j ∧ T.Past (T.evN j) (T.evN i)
open Classical in
/-- the numbers below j of the events after number i -/
noncomputable def Tr.lat (T : Tr) (j i : Nat) : List Int := ((List.range j).filter fun k => decide (T.bef i k)).map fun (k : Nat) => (k : Int)
theorem Tr.lat_zero (T : Tr) (i : Nat) : T.lat 0 i = [] := rfl
theorem Tr.lat_yes {T : Tr} {j i : Nat} (h : T.bef i j) : T.lat (j + 1) i = T.lat j i ++ [(j : Int)] := by
  unfold Tr.lat; rw [List.range_succ, List.filter_append, List.map_append]; simp [h]
theorem Tr.lat_no {T : Tr} {j i : Nat} (h : ¬ T.bef i j) : T.lat (j + 1) i = T.lat j i := by
  unfold Tr.lat; rw [List.range_succ, List.filter_append, List.map_append]; simp [h]
theorem Tr.lat_len (T : Tr) (j i : Nat) : (T.lat j i).length ≤ j := by
  unfold Tr.lat; rw [List.length_map]
  exact Nat.le_trans (List.length_filter_le _ _) (by simp)
open Classical in
theorem Tr.lat_mem {T : Tr} {j i : Nat} {x : Int} : x ∈ T.lat j i ↔ ∃ k : Nat, k < j ∧ T.bef i k ∧ x = k := by
  unfold Tr.lat
  constructor
  · intro h
    obtain ⟨k, hk, rfl⟩ := List.mem_map.1 h
    have := List.mem_filter.1 hk
    exact ⟨k, List.mem_range.1 this.1, of_decide_eq_true this.2, rfl⟩
  · rintro ⟨k, h1, h2, rfl⟩
    exact List.mem_map.2 ⟨k, List.mem_filter.2 ⟨List.mem_range.2 h1, decide_eq_true h2⟩, rfl⟩
/-- the rows while they grow: row k has the numbers up to j if k < i, else below j -/
noncomputable def Tr.rowsAt (T : Tr) (j i : Nat) : Nat → List Int := fun k => if k < i then T.lat (j + 1) k else T.lat j k
theorem Tr.rowsAt_zero (T : Tr) (j : Nat) : T.rowsAt j 0 = T.lat j := by funext k; unfold Tr.rowsAt; rw [if_neg (by omega)]
theorem Tr.rowsAt_self (T : Tr) (j i : Nat) : T.rowsAt j i i = T.lat j i := by unfold Tr.rowsAt; rw [if_neg (by omega)]
theorem Tr.rowsAt_yes {T : Tr} {j i : Nat} (h : T.bef i j) : updR (T.rowsAt j i) i (T.rowsAt j i i ++ [(j : Int)]) = T.rowsAt j (i + 1) := by
  funext k
  unfold updR
  by_cases e : k = i
  · subst e; rw [if_pos rfl, Tr.rowsAt_self]; unfold Tr.rowsAt; rw [if_pos (by omega), Tr.lat_yes h]
  · rw [if_neg e]; unfold Tr.rowsAt
    by_cases h2 : k < i
    · rw [if_pos h2, if_pos (by omega)]
    · rw [if_neg h2, if_neg (by omega)]
theorem Tr.rowsAt_no {T : Tr} {j i : Nat} (h : ¬ T.bef i j) : T.rowsAt j i = T.rowsAt j (i + 1) := by
  funext k
  by_cases e : k = i
  · subst e; rw [Tr.rowsAt_self]; unfold Tr.rowsAt; rw [if_pos (by omega), Tr.lat_no h]
  · unfold Tr.rowsAt
    by_cases h2 : k < i
    · rw [if_pos h2, if_pos (by omega)]
    · rw [if_neg h2, if_neg (by omega)]
theorem StS.congr {base bS n : Nat} {r r' : Nat → List Int} {vs : Nat → Value} {w : World} (h : StS base bS n r vs w) (he : ∀ k, k < n → r k = r' k) : StS base bS n r' vs w :=
  ⟨h.hn, h.cell, h.froz, fun k hk => by rw [← he k hk]; exact h.own k hk, h.apart, h.off, fun k hk => by rw [← he k hk]; exact h.len k hk⟩
/-- block z is none of the rows' -/
structure Far (bS n : Nat) (vs : Nat → Value) (w : World) (z : Nat) : Prop where
  ne : z ≠ bS
  lt : z < w.heap.size
  row : ∀ k, k < n → (vs k).ownBlock ≠ some z
theorem Far.push {bS n p : Nat} {vs : Nat → Value} {w w' : World} {z : Nat} {v' : Value} {c : Array Value} {t : TypeId} (h : Far bS n vs w z) (hp : p < n) (hg : (w.alloc (.cells c t)).grownBy w' (vs p).ownBlock)
    (hat : v'.ownBlock = (vs p).ownBlock ∨ v'.ownBlock = some (w.alloc (.cells c t)).heap.size) : Far bS n (updV vs p v') (w'.setCell ⟨bS, p, none⟩ v') z ∧ (w'.setCell ⟨bS, p, none⟩ v').heap[z]? = w.heap[z]? := by
  have hz : w'.heap[z]? = w.heap[z]? := by
    rw [hg.block z (by rw [World.size_alloc]; have := h.lt; omega) (fun e => h.row p hp e.symm), Below.heap_alloc _ _ _ h.lt]
  refine ⟨⟨h.ne, by rw [World.size_setCell]; have := hg.size; rw [World.size_alloc] at this; have := h.lt; omega, fun k hk e => ?_⟩, (Below.heap_setCell _ _ _ _ h.ne).trans hz⟩
  unfold updV at e
  by_cases ek : k = p
  · rw [if_pos ek] at e
    rcases hat with h1 | h1
    · exact h.row p hp (h1 ▸ e)
    · rw [h1, World.size_alloc] at e; have := h.lt; simp at e; omega
  · rw [if_neg ek] at e; exact h.row k hk e
theorem Far.ext {bS n : Nat} {vs : Nat → Value} {w w' : World} {z : Nat} (h : Far bS n vs w z) (x : Ext w w') : Far bS n vs w' z := ⟨h.ne, Nat.lt_of_lt_of_le h.lt x.le, h.row⟩
/-- a new block is far -/
theorem Far.new {base bS n : Nat} {rows : Nat → List Int} {vs : Nat → Value} {w w' : World} {z : Nat} (h : StS base bS n rows vs w) (h0 : 0 < n) (hz : w.heap.size ≤ z) (hz' : z < w'.heap.size) : Far bS n vs w' z :=
  ⟨by have : bS < w.heap.size := cell_lt (h.cell 0 h0); omega, hz', fun k hk e => by have := (h.own k hk).lt z e; omega⟩
theorem Hold.at {w w' : World} {b : Nat} {c : Array Value} (h : Hold w b c) (e : w'.heap[b]? = w.heap[b]?) : Hold w' b c := by
  obtain ⟨t, h⟩ := h; exact ⟨t, e.trans h⟩

/-- sets in a row, two cells each -/
def setRow (S : Nat → SetM) : Nat → List Value
  | 0 => []
  | n + 1 => setRow S n ++ [.int .i64 (S n).N, .slice (S n).a (S n).m (S n).cap]
theorem setRow_len (S : Nat → SetM) : ∀ n, (setRow S n).length = n * 2
  | 0 => rfl
  | n + 1 => by rw [setRow, List.length_append, setRow_len S n]; simp; omega
theorem setRow_get (S : Nat → SetM) : ∀ (n k : Nat), k < n → (setRow S n)[k * 2]? = some (.int .i64 (S k).N) ∧ (setRow S n)[k * 2 + 1]? = some (.slice (S k).a (S k).m (S k).cap)
  | 0, _, h => by omega
  | n + 1, k, h => by
    rw [setRow]
    have hl := setRow_len S n
    by_cases e : k < n
    · have := setRow_get S n k e
      rw [List.getElem?_append_left (by omega), List.getElem?_append_left (by omega)]; exact this
    · obtain rfl : k = n := by omega
      rw [List.getElem?_append_right (by omega), List.getElem?_append_right (by omega), hl, show k * 2 - k * 2 = 0 by omega, show k * 2 + 1 - k * 2 = 1 by omega]
      exact ⟨rfl, rfl⟩
theorem setRow_congr {S S' : Nat → SetM} : ∀ {n : Nat}, (∀ k, k < n → S k = S' k) → setRow S n = setRow S' n
  | 0, _ => rfl
  | n + 1, h => by rw [setRow, setRow, setRow_congr (n := n) fun k hk => h k (by omega), h n (by omega)]
theorem SetM.At.same {S : SetM} {w w' : World} (h : S.At w) (hs : w.heap.size ≤ w'.heap.size) (e : 0 < S.m → w'.heap[S.b]? = w.heap[S.b]?) : S.At w' := by
  refine ⟨h.hm, h.pa, fun h0 w2 x => Nat.lt_of_lt_of_le (h.pb h0 w (Ext.refl _)) (Nat.le_trans hs x.le), fun w2 x k hk => ?_, h.u⟩
  have hb := h.pb (by omega) w (Ext.refl _)
  have e1 : w2.heap[S.b]? = w.heap[S.b]? := (x.block _ (by omega)).trans (e (by omega))
  rw [World.cell?_of_block (w := w) (a := ⟨S.b, S.off + k, none⟩) e1]; exact h.p0 w (Ext.refl _) k hk
def updS (S : Nat → SetM) (n : Nat) (s : SetM) : Nat → SetM := fun k => if k = n then s else S k
/-- the relation while it grows: n rows of sets; v is its slice (block from B on), bx the box that holds v -/
structure RelI (w7 : World) (bx N n : Nat) (v : Value) (S : Nat → SetM) (bit : Nat → Nat → Prop) (wr : World) : Prop where
  bl : Ext w7 wr
  hb : w7.heap.size ≤ bx
  box : Hold wr bx #[v]
  own : wr.ownsRow (bx + 1) 152 2 v n (setRow S n)
  set : ∀ k, k < n → (S k).At wr ∧ (S k).Good N ∧ (0 < (S k).m → bx < (S k).b ∧ v.ownBlock ≠ some (S k).b)
  bit : ∀ k i, k < n → i < N → (((S k).wd (i / 64)).testBit (i % 64) = true ↔ bit k i)
theorem RelI.ext {w7 : World} {bx N n : Nat} {v : Value} {S : Nat → SetM} {bit : Nat → Nat → Prop} {wr w' : World} (h : RelI w7 bx N n v S bit wr) (x : Ext wr w') : RelI w7 bx N n v S bit w' :=
  ⟨h.bl.trans x, h.hb, h.box.ext x, h.own.kept (row := none) ⟨x.os, x.tape, x.output, x.size, fun k hk _ => x.block k hk⟩ (by cases v.ownBlock <;> simp), fun k hk => ⟨(h.set k hk).1.ext x, (h.set k hk).2⟩, h.bit⟩
/-- a set is appended and the slice laid into its box -/
theorem RelI.push {w7 : World} {bx N n : Nat} {v v' : Value} {S : Nat → SetM} {bit : Nat → Nat → Prop} {wr w4 w6 : World} {s : SetM} {c : Array Value} {t : TypeId} (h : RelI w7 bx N n v S bit wr) (x4 : Ext wr w4)
    (hs : s.At w4) (hG : s.Good N) (hsb : wr.heap.size ≤ s.b) (hbit : ∀ i, i < N → ((s.wd (i / 64)).testBit (i % 64) = true ↔ bit n i))
    (ho : w6.ownsRow (bx + 1) 152 2 v' (n + 1) (setRow S n ++ [.int .i64 s.N, .slice s.a s.m s.cap])) (hg : (w4.alloc (.cells c t)).grownBy w6 v.ownBlock)
    (hat : v'.ownBlock = v.ownBlock ∨ v'.ownBlock = some (w4.alloc (.cells c t)).heap.size) :
    RelI w7 bx N (n + 1) v' (updS S n s) bit (w6.setCell ⟨bx, 0, none⟩ v') ∧ w6.cell? ⟨bx, 0, none⟩ = some v ∧ w6.frozen? ⟨bx, 0, none⟩ = false := by
  have h4 := h.ext x4
  have hvb := h4.own.lt
  have hbx := h4.box.lt
  have hfar : ∀ z, z < w4.heap.size → v.ownBlock ≠ some z → w6.heap[z]? = w4.heap[z]? := fun z hz hne => by
    rw [hg.block z (by rw [World.size_alloc]; omega) (fun e => hne e.symm), Below.heap_alloc _ _ _ hz]
  have hbx6 : w6.heap[bx]? = w4.heap[bx]? := hfar bx hbx (fun e => by have := (hvb bx e).1; omega)
  have hsz6 : w4.heap.size < w6.heap.size := by have := hg.size; rw [World.size_alloc] at this; omega
  have hset : ∀ z, z ≠ bx → (w6.setCell ⟨bx, 0, none⟩ v').heap[z]? = w6.heap[z]? := fun z hz => Below.heap_setCell _ _ _ _ hz
  have hold6 : Hold w6 bx #[v] := h4.box.at hbx6
  have hne' : ∀ z, z < w4.heap.size → v.ownBlock ≠ some z → v'.ownBlock ≠ some z := fun z hz hne e => by
    rcases hat with h1 | h1
    · exact hne (h1 ▸ e)
    · rw [h1, World.size_alloc] at e; simp at e; omega
  refine ⟨⟨?_, h.hb, hold6.set 0 v', ?_, fun k hk => ?_, fun k i hk hi => ?_⟩, hold6.cell0 0, hold6.box.frozen w6 (Ext.refl _) 0⟩
  · have b1 : Below w7.heap.size w4 w6 := by
      refine (((Below.refl _ w4).alloc h4.bl.le _).grown hg (by rw [World.size_alloc]; have := h4.bl.le; omega) fun k e => ?_)
      have := (hvb k e).1; have := h.hb; omega
    exact Below.trans h4.bl (b1.setCell (by show _ ≤ bx; exact h.hb) _)
  · have e : setRow (updS S n s) (n + 1) = setRow S n ++ [.int .i64 s.N, .slice s.a s.m s.cap] := by
      rw [setRow, setRow_congr (S' := S) fun k hk => by unfold updS; rw [if_neg (by omega)]]
      unfold updS; rw [if_pos rfl]
    rw [e]
    have hb' : ∀ k, v'.ownBlock = some k → bx ≠ k := fun k e => by have := (ho.lt k e).1; omega
    exact ho.kept (row := some bx) ⟨rfl, rfl, rfl, by rw [World.size_setCell]; exact Nat.le_refl _, fun k _ hne => hset k (fun e => hne (by rw [e]))⟩ (by
      cases hv : v'.ownBlock with
      | none => exact .inl rfl
      | some k => right; intro e; cases e; exact hb' _ hv rfl)
  · unfold updS
    by_cases e : k = n
    · rw [if_pos e]
      refine ⟨hs.same (by rw [World.size_setCell]; omega) fun h0 => ?_, hG, fun h0 => ⟨?_, ?_⟩⟩
      · have hb := hs.pb h0 w4 (Ext.refl _)
        have hbxr := h.box.lt
        rw [hset _ (by omega)]
        exact hfar _ hb (fun e => by have := (h.own.lt _ e).2; omega)
      · have := h.box.lt; omega
      · exact hne' _ (hs.pb h0 w4 (Ext.refl _)) (fun e => by have := (h.own.lt _ e).2; omega)
    · rw [if_neg e]
      obtain ⟨a1, a2, a3⟩ := h4.set k (by omega)
      refine ⟨a1.same (by rw [World.size_setCell]; omega) fun h0 => ?_, a2, fun h0 => ⟨(a3 h0).1, ?_⟩⟩
      · have hb := a1.pb h0 w4 (Ext.refl _)
        rw [hset _ (by have := (a3 h0).1; omega)]
        exact hfar _ hb (a3 h0).2
      · exact hne' _ (a1.pb h0 w4 (Ext.refl _)) (a3 h0).2
  · unfold updS
    by_cases e : k = n
    · rw [if_pos e, e]; exact hbit i hi
    · rw [if_neg e]; exact h.bit k i (by omega) hi
/-- a relation on N numbers in memory -/
structure RelAt (a : Option Addr) (g N cap : Nat) (S : Nat → SetM) (bit : Nat → Nat → Prop) (w : World) : Prop where
  pa : 0 < N → a = some ⟨g, 0, none⟩
  pb : 0 < N → ∀ w', Ext w w' → g < w'.heap.size
  c0 : ∀ w', Ext w w' → ∀ k, k < N → w'.cell? ⟨g, k * 2, none⟩ = some (.int .i64 (S k).N)
  c1 : ∀ w', Ext w w' → ∀ k, k < N → w'.cell? ⟨g, k * 2 + 1, none⟩ = some (.slice (S k).a (S k).m (S k).cap)
  set : ∀ k, k < N → (S k).At w ∧ (S k).Good N
  bit : ∀ k i, k < N → i < N → (((S k).wd (i / 64)).testBit (i % 64) = true ↔ bit k i)
theorem RelI.at {w7 : World} {bx N z : Nat} {v : Value} {S : Nat → SetM} {bit : Nat → Nat → Prop} {wr : World} (h : RelI w7 bx N N v S bit wr) (hz : z < w7.heap.size) : ∃ a g cap, v = .slice a N cap ∧ ∀ w', Only z wr w' → RelAt a g N cap S bit w' := by
  obtain ⟨h1, ⟨hv, hn⟩ | ⟨g, cap, cur, hv, hg, hh, hc, hm, hs, ht⟩⟩ := h.own
  · subst hn
    exact ⟨none, 0, 0, hv, fun w' _ => ⟨fun h => by omega, fun h => by omega, fun _ _ k h => by omega, fun _ _ k h => by omega, fun k h => by omega, fun k i h => by omega⟩⟩
  · have hget : ∀ j, j < N * 2 → cur[j]? = (setRow S N)[j]? := fun j hj => by rw [← ht, List.getElem?_take_of_lt hj]; simp
    have hbx := h.hb
    refine ⟨_, g, cap, hv, fun w' ho => ?_⟩
    have hb := Box.of (w := w') ((ho.block g (by omega)).trans hh)
    refine ⟨fun _ => rfl, fun _ => hb.lt, fun w2 x k hk => ?_, fun w2 x k hk => ?_, fun k hk => ⟨(h.set k hk).1.same (Nat.le_of_eq ho.size.symm) fun h0 => ho.block _ (by have := ((h.set k hk).2.2 h0).1; omega), (h.set k hk).2.1⟩, h.bit⟩
    · rw [hb.cell w2 x, hget _ (by omega)]; exact (setRow_get S N k hk).1
    · rw [hb.cell w2 x, hget _ (by omega)]; exact (setRow_get S N k hk).2
theorem RelAt.same {a : Option Addr} {g N cap : Nat} {S : Nat → SetM} {bit : Nat → Nat → Prop} {w w' : World} (h : RelAt a g N cap S bit w) (x : Ext w w') : RelAt a g N cap S bit w' :=
  ⟨h.pa, fun h0 w2 y => h.pb h0 w2 (x.trans y), fun w2 y => h.c0 w2 (x.trans y), fun w2 y => h.c1 w2 (x.trans y), fun k hk => ⟨(h.set k hk).1.ext x, (h.set k hk).2⟩, h.bit⟩

end Go.Proofs.YteikcgfnkhoigaaGreat

namespace Go.Proofs.YteikcgfnkhoigaaGreat
open Go.RowKit Go.Shelf

theorem infoSet : (Tryz.prog.info? 152).map (fun i => (i.zero, i.size, i.bytes)) = some (some (.agg #[.int .i64 0, .slice none 0 0]), 2, 32) := by kernel_rfl
/-- all that lay when the rows were made: the boxes, what is known, the list of events -/
structure OrdB (T : TM) (w : World) (bk bs br : Nat) (v6 : Value) (wr : World) : Prop where
  h0 : Hold wr w.heap.size #[.slice (some ⟨T.b, T.off, none⟩) T.n T.cap]
  h1 : Hold wr (w.heap.size + 1) #[.slice none 0 0]
  hk : Hold wr bk #[.slice (some ⟨T.b, T.off, none⟩) T.n T.cap, .map (some bs), .map (some br)]
  kn : KnAt T bs br wr
  ev : EvOwn wr (w.heap.size + 1 + 1) v6 (T.toTr.evs.map fun x => evI x.1)
  bl : Ext w wr
theorem OrdB.below {T : TM} {w : World} {bk bs br : Nat} {v6 : Value} {wr w' : World} (h : OrdB T w bk bs br v6 wr) {B : Nat} {W : World} (x : Below B W w') (hB : wr.heap.size ≤ B) (e : Below B wr W) : OrdB T w bk bs br v6 w' := by
  have y : Ext wr w' := Below.mono (Below.trans e x) hB
  exact ⟨h.h0.ext y, h.h1.ext y, h.hk.ext y, h.kn.ext y, h.ev.kept y, h.bl.trans y⟩
theorem OrdB.ext {T : TM} {w : World} {bk bs br : Nat} {v6 : Value} {wr w' : World} (h : OrdB T w bk bs br v6 wr) (y : Ext wr w') : OrdB T w bk bs br v6 w' :=
  ⟨h.h0.ext y, h.h1.ext y, h.hk.ext y, h.kn.ext y, h.ev.kept y, h.bl.trans y⟩
theorem OrdB.fin {T : TM} {w w1 w4 wx : World} {bz bs br base : Nat} {v6 : Value} {c : Array Value} (hs1 : w1.heap.size = w.heap.size + 1 + 1) (x1 : Ext w w1)
    (k0 : Hold w1 w.heap.size #[.slice (some ⟨T.b, T.off, none⟩) T.n T.cap]) (k1 : Hold w1 (w.heap.size + 1) #[.slice none 0 0]) (x4 : Ext w1 w4) (hz : Hold w4 bz c) (hzb : w1.heap.size ≤ bz)
    (kn : KnAt T bs br w4) (ev : EvOwn w4 base v6 (T.toTr.evs.map fun x => evI x.1)) (hb : w1.heap.size ≤ base) (hne : v6.ownBlock ≠ some bz) (ho : Only bz w4 wx)
    (hk : Hold wx bz #[.slice (some ⟨T.b, T.off, none⟩) T.n T.cap, .map (some bs), .map (some br)]) : OrdB T w bz bs br v6 wx := by
  have hmap : ∀ b L, MapAt w4 b L → b ≠ bz := by
    intro b L ⟨es, cl, h1, _⟩ e
    obtain ⟨t, h2⟩ := hz
    rw [e, h2] at h1; cases h1
  refine ⟨ho.hold (k0.ext x4) (by omega), ho.hold (k1.ext x4) (by omega), hk, ⟨kn.s.same (ho.block _ (hmap _ _ kn.s)), kn.r.same (ho.block _ (hmap _ _ kn.r))⟩, ?_, Below.trans (x1.trans x4) (ho.below (by have := x1.le; omega))⟩
  exact World.ownsRow.mono (EvOwn.same ev fun g e => ho.block g (fun e' => hne (e' ▸ e))) (by omega)
theorem own_slice2 {w : World} {base : Nat} {t : TypeId} {v : Value} {n : Nat} {xs : List Value} (h : w.ownsRow base t 2 v (n + 1) xs) : ∃ a c, v = .slice a (n + 1) c := by
  obtain ⟨_, ⟨hv, hn⟩ | ⟨g, cap, cur, hv, _⟩⟩ := h
  · omega
  · exact ⟨_, _, hv⟩
theorem order_results (tmps : Array Value) (W : World) (b : Nat) (x z : Value) (t2 : tmps[2]? = some (.pointer (some ⟨b, 0, none⟩))) (t3 : tmps[3]? = some z) (c : W.cell? ⟨b, 0, none⟩ = some x) :
    (results Tryz.f91 tmps).run Tryz.prog W = .ok (.tuple #[.agg #[x], z]) W := by
  simp [results, go_sem, t2, t3, c]
theorem drewd {w : World} {n : Nat} {G : World → Prop} (h : ∀ w', Ext w w' → G w') : G (w.drewN n) := h _ ((Ext.refl _).drewN _)
theorem Box.newD {w W : World} {c : Array Value} {t : TypeId} (h : Ext (w.drew.alloc (.cells c t)) W) : Box W w.heap.size c := Box.ext (Hold.new w.drew c t).box h
theorem Box.newP {w W : World} {c : Array Value} {t : TypeId} (h : Ext (w.alloc (.cells c t)) W) : Box W w.heap.size c := Box.ext (Hold.new w c t).box h
def OrderPost (T : TM) (w : World) (e : Ending) (w' : World) : Prop := Ext w w' ∧ ∃ a g cap S, e = .returned (.tuple #[.agg #[.slice a T.toTr.evs.length cap], .int .i64 0]) ∧ RelAt a g T.toTr.evs.length cap S T.toTr.bef w'
set_option maxRecDepth 100000 in
set_option maxHeartbeats 4000000 in
theorem order_any (w : World) (T : TM) (hT : T.At w) (hV : T.toTr.Valid) (hN : T.toTr.evs.length ≤ 100) :
    Calls Tryz.prog 91 #[T.val] w (OrderPost T w) := by
  obtain ⟨i0, hi0, hz0, hz1, hz2⟩ := info_parts infoInts
  obtain ⟨j0, hj0, hy0, hy1, hy2⟩ := info_parts infoInt
  obtain ⟨s0, hs0, hq0, hq1, hq2⟩ := info_parts infoSet
  have hn1 := hV.n1
  have pa := hT.P.pa (by omega)
  have HT := Lib.hid hT
  have HV := Lib.hid hV
  clear hT hV
  go_enter Tryz.func91, Tryz.ntmps91
  go_upto_region 1 with fail
  refine boxed2 (w := w) (G := fun x => Code.wp _ _ _ _ x) ?_
  intro w1 hx1 hs1 ⟨l0, c0, _, k0⟩ ⟨l1, c1, _, k1⟩
  have hx11 : Ext w1 w1 := Ext.refl _
  have hC := check_nil w1 T (HT.out.ext hx1) 0 (.inl ⟨HV.out, rfl⟩)
  simp only [TM.val, pa] at hC
  have HK0 := Lib.hid k0
  have HK1 := Lib.hid k1
  clear k0 k1
  go_upto_region 4 with (go_at_call 101; refine hC.mono ?_; rintro e w2 ⟨rfl, hx2⟩)
  clear hC
  have hKn := fun W (h : Ext w1 W) => knows_any W T (HT.out.ext (hx1.trans h)) HV.out
  have hEv := fun W (h : Ext w1 W) => cevents_any W T (HT.out.ext (hx1.trans h)) HV.out
  simp only [TM.val, pa] at hKn hEv
  have HKn := Lib.hid hKn
  have HEv := Lib.hid hEv
  clear hKn hEv
  have HS1 := Lib.hid hs1
  clear hs1
  go_cut [5, 6] (fun s5 s6 wx => ∃ bk bs br, s5 = .pointer (some ⟨bk, 0, none⟩) ∧ OrdB T w bk bs br s6 wx)
  case first =>
    go_region_with (first | (go_at_call 103; refine (HKn.out _ (by repeat first | exact hx2 | exact hx14 | refine Ext.drew ?_ | refine Ext.alloc' ?_ _)).mono ?_; rintro e w3 ⟨hx3, bs, br, rfl, hkn⟩; have hx13 : Ext w1 w3 := Ext.trans (by repeat first | exact hx2 | exact hx14 | refine Ext.drew ?_ | refine Ext.alloc' ?_ _) hx3; have HKN := Lib.hid hkn; have hx33 : Ext w3 w3 := Ext.refl _; clear hkn; first | (have hz9 := Box.newD hx3; have HZ := Lib.hid hz9; obtain ⟨lz, cz, fz, kz⟩ := hz9) | (have hz9 := Box.newP hx3; have HZ := Lib.hid hz9; obtain ⟨lz, cz, fz, kz⟩ := hz9) | (have hz9 := Box.ext HZ.out hx3; have HZ := Lib.hid hz9; obtain ⟨lz, cz, fz, kz⟩ := hz9) | skip) | (go_at_call 138; refine (HEv.out _ (by repeat first | exact hx2 | exact hx13 | refine Ext.drew ?_ | refine Ext.alloc' ?_ _)).mono ?_; rintro e w4 ⟨hx4, v6, rfl, hev⟩; have hx14 : Ext w1 w4 := Ext.trans (by repeat first | exact hx2 | exact hx13 | refine Ext.drew ?_ | refine Ext.alloc' ?_ _) hx4; have HEV := Lib.hid hev; have hx44 : Ext w4 w4 := Ext.refl _; clear hev; first | (have hz9 := Box.newD hx4; have HZ := Lib.hid hz9; obtain ⟨lz, cz, fz, kz⟩ := hz9) | (have hz9 := Box.newP hx4; have HZ := Lib.hid hz9; obtain ⟨lz, cz, fz, kz⟩ := hz9) | (have hz9 := Box.ext HZ.out hx4; have HZ := Lib.hid hz9; obtain ⟨lz, cz, fz, kz⟩ := hz9) | skip))
    all_goals (go_wp2_with fail)
    all_goals go_meet
    all_goals first
      | exact ⟨_, bs, br, rfl, OrdB.fin HS1.out hx1 HK0.out HK1.out hx14 kz (by have h2 := hx3.le; have h3 := hx2.le; simp at h2; omega) (HKN.out.ext ((Ext.refl _).trans hx4)) HEV.out (by have h2 := hx3.le; have h3 := hx2.le; simp at h2; first | omega | (simp; omega)) (by intro e; have h1 := HEV.out.block _ e; have h2 := hx3.le; simp at h1 h2; omega) (((Only.set _ _ _ _).trans (Only.set _ _ _ _)).trans (Only.set _ _ _ _)) (((Hold.set kz 0 _).set 1 _).set 2 _)⟩
      | exact ⟨_, bs, br, rfl, OrdB.fin HS1.out hx1 HK0.out HK1.out hx14 kz (by have h2 := hx3.le; have h3 := hx2.le; simp at h2; omega) (HKN.out.ext ((Ext.alloc _ _).trans hx4)) HEV.out (by have h2 := hx3.le; have h3 := hx2.le; simp at h2; first | omega | (simp; omega)) (by intro e; have h1 := HEV.out.block _ e; have h2 := hx3.le; simp at h1 h2; omega) (((Only.set _ _ _ _).trans (Only.set _ _ _ _)).trans (Only.set _ _ _ _)) (((Hold.set kz 0 _).set 1 _).set 2 _)⟩
      | exact ⟨_, bs, br, rfl, ⟨Hold.ext HK0.out (hx14.alloc' _), Hold.ext HK1.out (hx14.alloc' _), Hold.new _ _ _, HKN.out.ext (hx4.alloc' _), World.ownsRow.mono (EvOwn.kept HEV.out (Ext.alloc _ _)) (by have h2 := hx13.le; have := HS1.out; omega), hx1.trans (hx14.alloc' _)⟩⟩
  case rest =>
    obtain ⟨bk, bs, br, rfl, hB⟩ := hcut
    obtain ⟨N, hNe⟩ : ∃ N, N = T.toTr.evs.length := ⟨_, rfl⟩
    obtain ⟨aa, acap, ab, hv6, hac, hapa, hapb, hac0, hac1⟩ := hB.ev.read
    rw [List.length_map, ← hNe] at hv6 hac hapa hapb
    rw [← hNe] at hN
    have ev0 : ∀ w', Ext wc w' → ∀ k, k < N → w'.cell? ⟨ab, k * 2, none⟩ = some (.int .i64 (T.toTr.evN k).1) := fun w' h k hk => by
      rw [hac0 w' h k (by rw [List.length_map]; omega), T.toTr.evN_get k (by omega)]; simp [evI]
    have ev1 : ∀ w', Ext wc w' → ∀ k, k < N → w'.cell? ⟨ab, k * 2 + 1, none⟩ = some (.int .i64 ((T.toTr.evN k).2 + 1)) := fun w' h k hk => by
      rw [hac1 w' h k (by rw [List.length_map]; omega), T.toTr.evN_get k (by omega)]; simp [evI]
    subst hv6
    have EV0 := Lib.hid ev0
    have EV1 := Lib.hid ev1
    clear ev0 ev1
    have HB := Lib.hid hB
    have HNE := Lib.hid hNe
    have hwc := hB.bl
    have hcc : Ext wc wc := Ext.refl _
    obtain ⟨lk, ck, _, _⟩ := hB.hk.box
    clear hB hNe hac0 hac1 hx11 hx2 c0 c1 l0 l1
    go_upto_region 6 with (at_make; refine wpList_make_full _ rfl _ _ 33 rfl wc.heap.size 28 i0 (.slice none 0 0) 1 Tryz.underlying33 hi0 hz0 hz1 .i64 .i64 _ _ N rfl rfl rfl rfl (by rw [hz2]; omega) (by unfold maxLen; omega) (Nat.le_refl _) ?_; intro w3 hown3 hg3)
    have hx3 : Ext wc w3 := (Below.refl _ _).grown hg3 (Nat.le_refl _) (by simp)
    have HS3 := Lib.hid (StS.made hown3 (by omega))
    clear hown3 hg3
    go_wp2_with fail
    go_loopg [33] N (fun gg v wr => ∃ j : Nat, j ≤ N ∧ gg = N - j ∧ v = .int .i64 j ∧ Ext wc wr ∧ ∃ vs, StS wc.heap.size wc.heap.size N (T.toTr.lat j) vs wr)
    case atStart => exact ⟨0, by omega, rfl, rfl, hx3, _, HS3.out.congr fun k _ => (Tr.lat_zero _ _).symm⟩
    case round =>
      obtain ⟨j, hj, rfl, rfl, hxr, vs, hst⟩ := hrel
      have hrr : Ext wr wr := Ext.refl _
      have HST := Lib.hid hst
      clear hst
      by_cases hlt : j < N
      · have hlt' : (j : Int) < (N : Int) := by omega
        obtain rfl := hapa (by omega)
        have hapb := hapb (by omega)
        have hVy := T.toTr.evN_V j (by have := HNE.out; omega)
        obtain ⟨⟨yp, yi⟩, hy⟩ : ∃ y, y = T.toTr.evN j := ⟨_, rfl⟩
        have ey0 : ∀ w', Ext wc w' → w'.cell? ⟨ab, j * 2, none⟩ = some (.int .i64 yp) := fun w' h => by rw [EV0.out w' h j hlt, ← hy]
        have ey1 : ∀ w', Ext wc w' → w'.cell? ⟨ab, j * 2 + 1, none⟩ = some (.int .i64 (yi + 1)) := fun w' h => by rw [EV1.out w' h j hlt, ← hy]
        rw [← hy] at hVy
        have HY := Lib.hid hy
        have HVY := Lib.hid hVy
        clear hVy hy
        go_upto_region 9 with fail
        refine boxed1 (w := wr) (G := fun x => Code.wp _ _ _ _ x) ?_
        intro w4 hx4 hs4 ⟨l4, c4, _, k4⟩
        have hx44 : Ext w4 w4 := Ext.refl _
        have hxc4 : Ext wc w4 := hxr.trans hx4
        have hP : Calls Tryz.prog 139 #[.agg #[.slice (some ⟨T.b, T.off, none⟩) T.n T.cap, .map (some bs), .map (some br)], .agg #[.int .i64 yp, .int .i64 (yi + 1)]] w4 (PastPost T (yp, yi) w4) := by
          have := past_any w4 T (HT.out.ext (hwc.trans hxc4)) HV.out (yp, yi) HVY.out bs br (HB.out.kn.ext hxc4)
          simp only [TM.kn, pa] at this
          exact this
        go_wp2_with (go_at_call 139; refine hP.mono ?_; rintro e w5 ⟨hx5, cg, c, rfl, hcg, hcr, hpc⟩; have HCR := Lib.hid hcr; have HPC := Lib.hid hpc; clear hcr hpc)
        clear hP
        have hx45 : Ext wc w5 := hxc4.trans hx5
        have K5 := Lib.hid (Hold.ext k4 hx5)
        have hs4' := Lib.hid hs4
        have F5 := Lib.hid (show Far wc.heap.size N vs w5 wr.heap.size ∧ Far wc.heap.size N vs w5 cg from ⟨Far.new HST.out (by omega) (Nat.le_refl _) (by have := hx5.le; omega), Far.new HST.out (by omega) (by omega) HCR.out.lt⟩)
        have HST5 := Lib.hid (show StS wc.heap.size wc.heap.size N (T.toTr.rowsAt j 0) vs w5 by rw [Tr.rowsAt_zero]; exact HST.out.ext (by omega) (hx4.trans hx5))
        generalize wr.heap.size = yb at K5 F5 l4 c4 ⊢
        clear l4 c4 k4 hs4 hcg ey0 ey1
        go_loopg [43] N (fun gg v wi => ∃ i : Nat, i ≤ N ∧ gg = N - i ∧ v = .int .i64 i ∧ Ext wc wi ∧ Hold wi yb #[.int .i64 yp, .int .i64 (yi + 1)] ∧ CRow wi cg T.n c ∧ ∃ vs, StS wc.heap.size wc.heap.size N (T.toTr.rowsAt j i) vs wi ∧ Far wc.heap.size N vs wi yb ∧ Far wc.heap.size N vs wi cg)
        case atStart => exact ⟨0, by omega, rfl, rfl, hx45, K5.out, HCR.out, vs, HST5.out, F5.out.1, F5.out.2⟩
        case round =>
          obtain ⟨i, hi, rfl, rfl, hxi, hk, hc, vs, hst, hf1, hf2⟩ := hrel
          have hii : Ext wr wr := Ext.refl _
          obtain ⟨l4, c4, _, _⟩ := hk.box
          by_cases hli : i < N
          · have hli' : (i : Int) < (N : Int) := by omega
            have hVx := T.toTr.evN_V i (by have := HNE.out; omega)
            obtain ⟨⟨xp, xi⟩, hx⟩ : ∃ x, x = T.toTr.evN i := ⟨_, rfl⟩
            rw [← hx] at hVx
            obtain ⟨hxp, hxi2⟩ := hVx
            dsimp only at hxp hxi2
            have ex0 : ∀ w', Ext wc w' → w'.cell? ⟨ab, i * 2, none⟩ = some (.int .i64 xp) := fun w' h => by rw [EV0.out w' h i hli, ← hx]
            have ex1 : ∀ w', Ext wc w' → w'.cell? ⟨ab, i * 2 + 1, none⟩ = some (.int .i64 (xi + 1)) := fun w' h => by rw [EV1.out w' h i hli, ← hx]
            have hcn : ∀ w', Ext wr w' → w'.cell? ⟨cg, xp, none⟩ = some (.int .i64 (c xp)) := fun w' h => h.cell (hc.c xp hxp)
            have hcl : ∀ w', Ext wr w' → cg < w'.heap.size := fun w' h => Nat.lt_of_lt_of_le hc.lt h.le
            have hxp' : (xp : Int) < (T.n : Int) := by omega
            have hle := HPC.out.1 xp hxp
            have hen := HT.out.E.he xp hxp
            have HBE := Lib.hid (show T.toTr.bef i j ↔ ¬ ((xp, xi) = (yp, yi)) ∧ xi + 1 ≤ c xp by
              unfold Tr.bef; rw [← hx, ← HY.out]; exact and_congr Iff.rfl (HPC.out.2 xp xi hxp).symm)
            have HX := Lib.hid hx
            have HI := Lib.hid (And.intro hk (And.intro hc (And.intro hst (And.intro hf1 hf2))))
            clear hx hk hc hst hf1 hf2
            go_upto_region 13 with fail
            refine boxed1 (w := wr) (G := fun x => Code.wp _ _ _ _ x) ?_
            intro w6 hx6 hs6 ⟨l6, c6, _, k6⟩
            have hx66 : Ext w6 w6 := Ext.refl _
            have hxc6 : Ext wc w6 := hxi.trans hx6
            clear hs6 k6
            by_cases he : xp = yp ∧ xi = yi
            · obtain ⟨rfl, rfl⟩ := he
              have HNB := Lib.hid (show ¬ T.toTr.bef i j from fun h => (HBE.out.1 h).1 rfl)
              go_quiet (fail)
              go_wp2_with fail
              go_roundg (N - (i + 1))
              case rel => exact ⟨i + 1, by omega, rfl, by go_num, hxc6.drewN _, (HI.out.1.ext hx6).drewN _, (HI.out.2.1.ext hx6).ext ((Ext.refl _).drewN _), vs, (HI.out.2.2.1.ext (by omega) (hx6.trans ((Ext.refl _).drewN _))).congr fun k _ => by rw [Tr.rowsAt_no HNB.out], HI.out.2.2.2.1.ext (hx6.trans ((Ext.refl _).drewN _)), HI.out.2.2.2.2.ext (hx6.trans ((Ext.refl _).drewN _))⟩
              case measure => omega
            · by_cases hxy : xp = yp
              · subst hxy
                have hne : xi ≠ yi := fun h => he ⟨rfl, h⟩
                have hb2 : ((xi : Int) == (yi : Int)) = false := by simp; omega
                have hb3 : ((xi : Int) + 1 == (yi : Int) + 1) = false := by simp; omega
                by_cases hlq : xi + 1 ≤ c xp
                · have dc : decide ((xi : Int) + 1 ≤ (c xp : Int)) = true := decide_eq_true (by omega)
                  have HBF := Lib.hid (show T.toTr.bef i j from HBE.out.2 ⟨fun h => he (by cases h; exact ⟨rfl, rfl⟩), hlq⟩)
                  go_quiet (fail)
                  go_upto_region 14 with fail
                  refine drewd (w := w6) (G := fun x => Code.wp _ _ _ _ x) ?_
                  intro w7 hx67
                  have hx7 : Ext wr w7 := hx6.trans hx67
                  have hx77 : Ext w7 w7 := Ext.refl _
                  have hS := HI.out.2.2.1
                  have hfo := (hS.own i hli).form
                  have hpu := fun (w' : World) v' => StS.push (w := w7) (w' := w') (v' := v') (x := (j : Int)) (c := #[.int .i64 j]) (t := 3) (HI.out.2.2.1.ext (by omega) hx7) hli (Nat.le_refl _) (Nat.le_trans hxi.le hx7.le) (by rw [Tr.rowsAt_self]; have := T.toTr.lat_len j i; omega)
                  have hfa := fun (w' : World) v' => And.intro (Far.push (w := w7) (w' := w') (v' := v') (c := #[.int .i64 j]) (t := 3) (HI.out.2.2.2.1.ext hx7) hli) (Far.push (w := w7) (w' := w') (v' := v') (c := #[.int .i64 j]) (t := 3) (HI.out.2.2.2.2.ext hx7) hli)
                  have hll := T.toTr.lat_len j i
                  rw [← Tr.rowsAt_self] at hll
                  obtain ⟨L, hL⟩ : ∃ L, L = T.toTr.rowsAt j i i := ⟨_, rfl⟩
                  obtain ⟨a0, c0', hv0⟩ : ∃ a0 c0', vs i = .slice a0 L.length c0' := ⟨_, _, by rw [hL]; exact hfo.1⟩
                  have how : w7.ownsRow wc.heap.size 3 1 (.slice a0 L.length c0') L.length (intCells L) := by rw [← hv0, hL]; exact (hS.own i hli).kept hx7
                  have sp : ∀ w', Ext w7 w' → w'.cell? ⟨wc.heap.size, i, none⟩ = some (.slice a0 L.length c0') := fun w' x => by rw [← hv0]; exact (hx7.trans x).cell (hS.cell i hli)
                  have sb : ∀ w', Ext w7 w' → wc.heap.size < w'.heap.size := fun w' x => Nat.lt_of_lt_of_le (cell_lt (hS.cell i hli) : wc.heap.size < wr.heap.size) (hx7.trans x).le
                  rw [← hL] at hll
                  simp only [hv0, ← hL] at hpu hfa
                  have HOW := Lib.hid how
                  have HPU := Lib.hid hpu
                  have HFA := Lib.hid hfa
                  have HL := Lib.hid hL
                  clear hS hfo hpu hfa hL hv0 how hcn hcl l6 c6 ex0 ex1 l4 c4
                  go_wp2_with (at_builtin; refine wpList_append_own_at _ rfl _ _ 28 rfl wc.heap.size 3 j0 (.int .i64 0) 1 8 Tryz.underlying28 hj0 hy0 hy1 hy2 rfl (by decide) _ L.length (intCells L) rfl (by exact HOW.out.alloc _) ⟨w7.heap.size, 0, none⟩ 1 1 [.int .i64 j] rfl rfl (by exact news_ok _ [_] _) (by intro u hu; simp at hu; subst hu; rfl) (by unfold maxLen; omega) (by omega) (by have h1 := hx7.le; have h2 := hxi.le; simp; omega) ?_; rintro v8 w8 hown8 hg8 - hat8; obtain ⟨a8, c8, hv8⟩ := own_slice hown8; subst hv8; have P8 := HPU.out w8 _ hown8 hg8 hat8; have q1 := P8.2.2.1; have q2 := P8.2.2.2; have HP8 := Lib.hid P8; have HF8 := Lib.hid (And.intro ((HFA.out w8 _).1 hg8 hat8) ((HFA.out w8 _).2 hg8 hat8)); clear P8 hown8 hg8 hat8)
                  go_roundg (N - (i + 1))
                  case rel =>
                    refine ⟨i + 1, by omega, rfl, by go_num, Below.trans (hxi.trans hx7) HP8.out.2.1, (Hold.ext HI.out.1 hx7).at HF8.out.1.2, (HI.out.2.1.ext hx7).block (by have := HF8.out.2.1.lt; have := HP8.out.2.1.size; exact this) HF8.out.2.2, _, ?_, HF8.out.1.1, HF8.out.2.1⟩
                    rw [← Tr.rowsAt_yes HBF.out, ← HL.out]
                    exact HP8.out.1
                  case measure => omega
                · have dc : decide ((xi : Int) + 1 ≤ (c xp : Int)) = false := decide_eq_false (by omega)
                  have HNB := Lib.hid (show ¬ T.toTr.bef i j from fun h => hlq (HBE.out.1 h).2)
                  go_quiet (fail)
                  go_wp2_with fail
                  go_roundg (N - (i + 1))
                  case rel => exact ⟨i + 1, by omega, rfl, by go_num, hxc6.drewN _, (HI.out.1.ext hx6).drewN _, (HI.out.2.1.ext hx6).ext ((Ext.refl _).drewN _), vs, (HI.out.2.2.1.ext (by omega) (hx6.trans ((Ext.refl _).drewN _))).congr fun k _ => by rw [Tr.rowsAt_no HNB.out], HI.out.2.2.2.1.ext (hx6.trans ((Ext.refl _).drewN _)), HI.out.2.2.2.2.ext (hx6.trans ((Ext.refl _).drewN _))⟩
                  case measure => omega
              · have hb1 : ((xp : Int) == (yp : Int)) = false := by simp; omega
                by_cases hlq : xi + 1 ≤ c xp
                · have dc : decide ((xi : Int) + 1 ≤ (c xp : Int)) = true := decide_eq_true (by omega)
                  have HBF := Lib.hid (show T.toTr.bef i j from HBE.out.2 ⟨fun h => he (by cases h; exact ⟨rfl, rfl⟩), hlq⟩)
                  go_quiet (fail)
                  go_upto_region 14 with fail
                  refine drewd (w := w6) (G := fun x => Code.wp _ _ _ _ x) ?_
                  intro w7 hx67
                  have hx7 : Ext wr w7 := hx6.trans hx67
                  have hx77 : Ext w7 w7 := Ext.refl _
                  have hS := HI.out.2.2.1
                  have hfo := (hS.own i hli).form
                  have hpu := fun (w' : World) v' => StS.push (w := w7) (w' := w') (v' := v') (x := (j : Int)) (c := #[.int .i64 j]) (t := 3) (HI.out.2.2.1.ext (by omega) hx7) hli (Nat.le_refl _) (Nat.le_trans hxi.le hx7.le) (by rw [Tr.rowsAt_self]; have := T.toTr.lat_len j i; omega)
                  have hfa := fun (w' : World) v' => And.intro (Far.push (w := w7) (w' := w') (v' := v') (c := #[.int .i64 j]) (t := 3) (HI.out.2.2.2.1.ext hx7) hli) (Far.push (w := w7) (w' := w') (v' := v') (c := #[.int .i64 j]) (t := 3) (HI.out.2.2.2.2.ext hx7) hli)
                  have hll := T.toTr.lat_len j i
                  rw [← Tr.rowsAt_self] at hll
                  obtain ⟨L, hL⟩ : ∃ L, L = T.toTr.rowsAt j i i := ⟨_, rfl⟩
                  obtain ⟨a0, c0', hv0⟩ : ∃ a0 c0', vs i = .slice a0 L.length c0' := ⟨_, _, by rw [hL]; exact hfo.1⟩
                  have how : w7.ownsRow wc.heap.size 3 1 (.slice a0 L.length c0') L.length (intCells L) := by rw [← hv0, hL]; exact (hS.own i hli).kept hx7
                  have sp : ∀ w', Ext w7 w' → w'.cell? ⟨wc.heap.size, i, none⟩ = some (.slice a0 L.length c0') := fun w' x => by rw [← hv0]; exact (hx7.trans x).cell (hS.cell i hli)
                  have sb : ∀ w', Ext w7 w' → wc.heap.size < w'.heap.size := fun w' x => Nat.lt_of_lt_of_le (cell_lt (hS.cell i hli) : wc.heap.size < wr.heap.size) (hx7.trans x).le
                  rw [← hL] at hll
                  simp only [hv0, ← hL] at hpu hfa
                  have HOW := Lib.hid how
                  have HPU := Lib.hid hpu
                  have HFA := Lib.hid hfa
                  have HL := Lib.hid hL
                  clear hS hfo hpu hfa hL hv0 how hcn hcl l6 c6 ex0 ex1 l4 c4
                  go_wp2_with (at_builtin; refine wpList_append_own_at _ rfl _ _ 28 rfl wc.heap.size 3 j0 (.int .i64 0) 1 8 Tryz.underlying28 hj0 hy0 hy1 hy2 rfl (by decide) _ L.length (intCells L) rfl (by exact HOW.out.alloc _) ⟨w7.heap.size, 0, none⟩ 1 1 [.int .i64 j] rfl rfl (by exact news_ok _ [_] _) (by intro u hu; simp at hu; subst hu; rfl) (by unfold maxLen; omega) (by omega) (by have h1 := hx7.le; have h2 := hxi.le; simp; omega) ?_; rintro v8 w8 hown8 hg8 - hat8; obtain ⟨a8, c8, hv8⟩ := own_slice hown8; subst hv8; have P8 := HPU.out w8 _ hown8 hg8 hat8; have q1 := P8.2.2.1; have q2 := P8.2.2.2; have HP8 := Lib.hid P8; have HF8 := Lib.hid (And.intro ((HFA.out w8 _).1 hg8 hat8) ((HFA.out w8 _).2 hg8 hat8)); clear P8 hown8 hg8 hat8)
                  go_roundg (N - (i + 1))
                  case rel =>
                    refine ⟨i + 1, by omega, rfl, by go_num, Below.trans (hxi.trans hx7) HP8.out.2.1, (Hold.ext HI.out.1 hx7).at HF8.out.1.2, (HI.out.2.1.ext hx7).block (by have := HF8.out.2.1.lt; have := HP8.out.2.1.size; exact this) HF8.out.2.2, _, ?_, HF8.out.1.1, HF8.out.2.1⟩
                    rw [← Tr.rowsAt_yes HBF.out, ← HL.out]
                    exact HP8.out.1
                  case measure => omega
                · have dc : decide ((xi : Int) + 1 ≤ (c xp : Int)) = false := decide_eq_false (by omega)
                  have HNB := Lib.hid (show ¬ T.toTr.bef i j from fun h => hlq (HBE.out.1 h).2)
                  go_quiet (fail)
                  go_wp2_with fail
                  go_roundg (N - (i + 1))
                  case rel => exact ⟨i + 1, by omega, rfl, by go_num, hxc6.drewN _, (HI.out.1.ext hx6).drewN _, (HI.out.2.1.ext hx6).ext ((Ext.refl _).drewN _), vs, (HI.out.2.2.1.ext (by omega) (hx6.trans ((Ext.refl _).drewN _))).congr fun k _ => by rw [Tr.rowsAt_no HNB.out], HI.out.2.2.2.1.ext (hx6.trans ((Ext.refl _).drewN _)), HI.out.2.2.2.2.ext (hx6.trans ((Ext.refl _).drewN _))⟩
                  case measure => omega
          · have hie : i = N := by omega
            subst hie
            have HI := Lib.hid hst
            clear hk hc hst hf1 hf2
            go_wp2_with fail
            go_roundg (i - (j + 1))
            case rel => exact ⟨j + 1, by omega, rfl, by go_num, hxi, vs, HI.out.congr fun k hk => by unfold Tr.rowsAt; rw [if_pos hk]⟩
            case measure => omega
      · have hje : j = N := by omega
        subst hje
        go_upto_region 18 with fail
        refine boxed1t (w := wr) (G := fun x => Code.wp _ _ _ _ x) ?_
        intro w7 hx7 hs7 k7
        have HR0 := Lib.hid (RelI.mk (w7 := wr) (bx := wr.heap.size) (N := j) (n := 0) (v := .slice none 0 0) (S := fun _ => ⟨⟨0, 0, fun _ => 0⟩, none, 0, 0, 0⟩) (bit := T.toTr.bef) (wr := w7) hx7 (Nat.le_refl _) ⟨_, k7⟩ (World.ownsRow_nil _ _ _ _) (fun k h => absurd h (Nat.not_lt_zero _)) (fun k i h => absurd h (Nat.not_lt_zero _)))
        have hbx := Lib.hid (show w.heap.size + 1 < wr.heap.size by have h1 := HB.out.h1.lt; have h2 := hxr.le; omega)
        clear hs7 k7
        generalize hbe : wr.heap.size = bx at HR0 ⊢
        have HBE := Lib.hid hbe
        clear hbe
        go_wp2_with fail
        obtain ⟨w9, hw9⟩ : ∃ x, x = wr := ⟨_, rfl⟩
        rw [← hw9] at HR0 HST hbx HBE hxr hrr hx7
        clear hw9
        go_loopg [75] j (fun gg v wi => ∃ (k : Nat) (u : Value) (S : Nat → SetM), k ≤ j ∧ gg = j - k ∧ v = .int .i64 k ∧ RelI w9 bx j k u S T.toTr.bef wi)
        case atStart => exact ⟨0, _, _, by omega, rfl, rfl, HR0.out⟩
        case round =>
          obtain ⟨k, u, S, hk, rfl, rfl, hR⟩ := hrel
          have hii : Ext wr wr := Ext.refl _
          obtain ⟨lx, cx, fx, _⟩ := hR.box.box
          have hx9 := hR.bl
          have HR := Lib.hid hR
          clear hR
          by_cases hlt : k < j
          · have hlt' : (k : Int) < (j : Int) := by omega
            have hfo := (HST.out.own k hlt).form
            have hll := T.toTr.lat_len j k
            obtain ⟨L, hL⟩ : ∃ L, L = T.toTr.lat j k := ⟨_, rfl⟩
            rw [← hL] at hfo hll
            obtain ⟨a0, c0', hv0⟩ : ∃ a0 c0', vs k = .slice a0 L.length c0' := ⟨_, _, hfo.1⟩
            have sp : ∀ w', Ext w9 w' → w'.cell? ⟨wc.heap.size, k, none⟩ = some (.slice a0 L.length c0') := fun w' x => by rw [← hv0]; exact x.cell (HST.out.cell k hlt)
            have sb : ∀ w', Ext w9 w' → wc.heap.size < w'.heap.size := fun w' x => Nat.lt_of_lt_of_le (cell_lt (HST.out.cell k hlt) : wc.heap.size < w9.heap.size) x.le
            have hmem : ∀ t, t < L.length → 0 ≤ L.getD t 0 ∧ L.getD t 0 < j := fun t ht => by
              have h1 : L.getD t 0 ∈ T.toTr.lat j k := by
                rw [← hL, List.getD_eq_getElem?_getD, List.getElem?_eq_getElem ht]; exact List.getElem_mem ht
              obtain ⟨q, h2, _, h3⟩ := Tr.lat_mem.1 h1
              omega
            have hOf : ∀ W, Ext w9 W → Calls Tryz.prog 140 #[.int .i64 j, .slice a0 L.length c0'] W (OfPost j L.length (fun t => (L.getD t 0).toNat) W) := fun W hW =>
              of_any j (by omega) a0 (vBlock (vs k)) 0 L.length c0' (fun t => (L.getD t 0).toNat) W (by omega)
                (fun h0 => by have := hfo.2.1 h0; rw [hv0] at this ⊢; exact this)
                (fun h0 w' x => Nat.lt_of_lt_of_le ((HST.out.own k hlt).lt _ (hfo.2.2.2.1 h0)) (hW.trans x).le)
                (fun w' x t ht => by
                  rw [Nat.zero_add, hfo.2.2.2.2 w' (hW.trans x) t ht]
                  have := hmem t ht
                  rw [List.getD_eq_getElem?_getD, List.getElem?_eq_getElem ht] at this ⊢
                  simp only [Option.getD_some] at this ⊢
                  rw [Int.toNat_of_nonneg this.1])
                (fun t ht => by have := hmem t ht; show (L.getD t 0).toNat < j; omega)
            have HBIT := Lib.hid (show ∀ i, i < j → ((∃ t, t < L.length ∧ (L.getD t 0).toNat = i) ↔ T.toTr.bef k i) from fun i hi => by
              constructor
              · rintro ⟨t, ht, he⟩
                have h1 : L.getD t 0 ∈ T.toTr.lat j k := by
                  rw [← hL, List.getD_eq_getElem?_getD, List.getElem?_eq_getElem ht]; exact List.getElem_mem ht
                obtain ⟨q, h2, h3, h4⟩ := Tr.lat_mem.1 h1
                rw [h4, Int.toNat_natCast] at he; rw [← he]; exact h3
              · intro h
                have h1 : (i : Int) ∈ L := by rw [hL]; exact Tr.lat_mem.2 ⟨i, hi, h, rfl⟩
                obtain ⟨t, ht, he⟩ := List.mem_iff_getElem.1 h1
                exact ⟨t, ht, by rw [List.getD_eq_getElem?_getD, List.getElem?_eq_getElem ht, Option.getD_some, he, Int.toNat_natCast]⟩)
            have HOf := Lib.hid hOf
            clear hOf hfo hL hv0 hmem
            go_upto_region 22 with (go_at_call 140; refine (HOf.out _ hx9).mono ?_; rintro e w5 ⟨hx5, s, rfl, hsA, hsG, hsb, hsbit⟩; have HSE := Lib.hid (And.intro hsA (And.intro hsG (And.intro hsb hsbit))); clear hsA hsG hsb hsbit)
            refine boxed1 (w := w5) (G := fun x => Code.wp _ _ _ _ x) ?_
            intro w6 hx6 hs6 ⟨l6, c6, _, _⟩
            have hx66 : Ext w6 w6 := Ext.refl _
            have hx56 : Ext wr w6 := hx5.trans hx6
            clear hs6
            have hpu := fun (w' : World) v' => RelI.push (w6 := w') (v' := v') (w4 := w6) (s := s) (c := #[.int .i64 s.N, .slice s.a s.m s.cap]) (t := 152) HR.out hx56 (HSE.out.1.ext hx6) HSE.out.2.1 HSE.out.2.2.1 (fun i hi => by
              rw [HSE.out.2.2.2 i hi]; exact decide_eq_true_iff.trans (HBIT.out i hi))
            have HPU := Lib.hid hpu
            have HOW := Lib.hid ((HR.out.ext hx56).own.alloc (.cells #[.int .i64 s.N, .slice s.a s.m s.cap] 152))
            have hsz := Lib.hid (show bx + 1 ≤ w6.heap.size from (HR.out.ext hx56).box.lt)
            clear hpu
            go_wp2_with (at_builtin; refine wpList_append_own_at _ rfl _ _ 143 rfl (bx + 1) 152 s0 (.agg #[.int .i64 0, .slice none 0 0]) 2 32 Tryz.underlying143 hs0 hq0 hq1 hq2 rfl (by decide) u k (setRow S k) rfl (by exact HOW.out) ⟨w6.heap.size, 0, none⟩ 1 1 [.int .i64 s.N, .slice s.a s.m s.cap] rfl rfl (by exact news_ok _ [_, _] _) (by intro u hu; simp at hu; rcases hu with rfl | rfl <;> rfl) (by unfold maxLen; omega) (by omega) (by have h1 := hsz.out; simp; omega) ?_; rintro v8 w8 hown8 hg8 - hat8; obtain ⟨a8, c8, hv8⟩ := own_slice2 hown8; subst hv8; have P8 := HPU.out w8 _ hown8 hg8 hat8; have q1 := P8.2.1; have q2 := P8.2.2; have HP8 := Lib.hid P8.1; clear P8 hown8 hg8 hat8)
            go_roundg (j - (k + 1))
            case rel => exact ⟨k + 1, _, _, by omega, rfl, by go_num, HP8.out⟩
            case measure => omega
          · have hke : k = j := by omega
            subst hke
            obtain ⟨ra, rg, rc, hv, hfin⟩ := HR.out.at hbx.out
            subst hv
            have HF := Lib.hid (fun (w' : World) (ho : Only (w.heap.size + 1) wr w') => (show OrderPost T w (.returned (.tuple #[.agg #[.slice ra k rc], .int .i64 0])) w' from
              ⟨Below.trans ((hwc.trans hxr).trans hx9) (ho.below (by omega)), ra, rg, rc, S, by rw [← HNE.out], by rw [← HNE.out]; exact hfin w' ho⟩))
            have h1 := (HB.out.ext (hxr.trans hx9)).h1
            obtain ⟨lr, cr, fr, _⟩ := h1.box
            have G4 := Lib.hid (h1.set 0 (.slice ra k rc))
            clear h1 hfin
            go_wp2_with fail
            try simp only [Exit.inBlock, Exit.then]
            refine bodyPost_ret (order_results _ _ _ _ _ rfl rfl (G4.out.cell0 0)) rfl ?_
            exact HF.out _ (Only.set _ _ _ _)

end Go.Proofs.YteikcgfnkhoigaaGreat

namespace Go.Proofs.YteikcgfnkhoigaaGreat
open Go.RowKit Go.Shelf

theorem grow_own {w : World} (n cap : Nat) (hc : n ≤ cap) (hm : cap ≤ maxLen) : (w.drew.alloc (.cells (Builtin.zeroCells #[.int .i64 0] n ++ Builtin.zeroCells #[.int .i64 0] (cap - n)) 3)).ownsRow w.heap.size 3 1 (.slice (some ⟨w.heap.size, 0, none⟩) 0 cap) 0 [] := by
  refine ⟨rfl, .inr ⟨w.heap.size, cap, Builtin.zeroCells #[.int .i64 0] n ++ Builtin.zeroCells #[.int .i64 0] (cap - n), rfl, Nat.le_refl _, ?_, Nat.zero_le _, hm, ?_, by simp⟩⟩
  · show (w.heap.push _)[w.heap.size]? = _
    simp
  · rw [Array.size_append, size_zeroCells, size_zeroCells]; simp; omega
set_option maxRecDepth 100000 in
set_option maxHeartbeats 1000000 in
theorem grow_any (n : Nat) (hn : n ≤ 1000000) (w : World) :
    Calls Tryz.prog 141 #[.slice none 0 0, .int .i64 n] w fun e w' => ∃ v, e = .returned v ∧ w'.ownsRow w.heap.size 3 1 v 0 [] ∧ Ext w w' := by
  obtain ⟨j0, hj0, hy0, hy1, hy2⟩ := info_parts infoInt
  have d0 : decide ((n : Int) < 0) = false := decide_eq_false (by omega)
  by_cases h0 : n = 0
  · subst h0
    go_enter Tryz.func141, Tryz.ntmps141
    go_wp2_with fail
    go_ret
    exact ⟨_, rfl, World.ownsRow_nil _ _ _ _, Ext.refl _⟩
  · have d1 : decide ((0 : Int) < (n : Int)) = true := decide_eq_true (by omega)
    have hr := fun W => Lib.run_append_nil_zeros (P := Tryz.prog) W 28 3 28 3 j0 (.int .i64 0) .i64 .i64 Tryz.underlying28 Tryz.underlying3 hj0 hy0 n (by omega) (by rw [hy1]; omega) (by omega) (by rw [hy2]; omega)
    go_enter Tryz.func141, Tryz.ntmps141
    go_wp2_with (at_builtin; refine Lib.wpList_append_run _ rfl _ _ 28 3 rfl (.slice none 0 0) (.int .i64 n) rfl rfl _ _ (hr _) ?_)
    go_ret
    exact ⟨_, rfl, grow_own n _ (grownCap_ge _ _ _ _) (grownCap_le_maxLen _ _ _ _ (by unfold maxLen; omega)), (Ext.alloc _ _).drew⟩
/-- the numbers of a matrix, by events -/
def Tr.flat (T : Tr) (rows : Nat → List Int) (k i : Nat) : List Int := (T.evsTo k i).map fun e => (rows e.1.1).getD e.1.2 0
theorem Tr.flat_row {T : Tr} {rows : Nat → List Int} {k : Nat} (hk : k < T.n) : ∀ i, i ≤ T.en k → T.flat rows k i = T.flat rows k 0 ++ (List.range i).map fun j => (rows k).getD j 0
  | 0, _ => by simp
  | i + 1, h => by
    have ih := Tr.flat_row (T := T) (rows := rows) hk i (by omega)
    unfold Tr.flat at ih ⊢
    rw [Tr.evsTo_succ _ _ _ hk h, List.map_append, ih, List.range_succ, List.map_append, List.append_assoc]; rfl
theorem Tr.flat_next {T : Tr} {rows : Nat → List Int} {k : Nat} (hk : k < T.n) (hl : (rows k).length = T.en k) : T.flat rows (k + 1) 0 = T.flat rows k 0 ++ rows k := by
  have h := Tr.flat_row (T := T) (rows := rows) hk (T.en k) (Nat.le_refl _)
  have e : T.flat rows (k + 1) 0 = T.flat rows k (T.en k) := by unfold Tr.flat; rw [Tr.evsTo_next]
  rw [e, h]
  congr 1
  apply List.ext_getElem
  · simp [hl]
  · intro j h1 h2
    simp [List.getD_eq_getElem?_getD, List.getElem?_eq_getElem h2]
theorem Tr.flat_len {T : Tr} {rows : Nat → List Int} (k i : Nat) : (T.flat rows k i).length = (T.evsTo k i).length := by unfold Tr.flat; simp
theorem intCells_append (a b : List Int) : intCells (a ++ b) = intCells a ++ intCells b := by simp [intCells]
def CatPost (T : Tr) (rows : Nat → List Int) (w : World) (e : Ending) (w' : World) : Prop := Ext w w' ∧ ∃ v, e = .returned v ∧ Que w' w.heap.size 1 v (T.flat rows T.n 0).length (intCells (T.flat rows T.n 0))
set_option maxRecDepth 100000 in
set_option maxHeartbeats 1000000 in
theorem concat_any (w : World) (T : Tr) (base bS cap : Nat) (rows : Nat → List Int) (vs : Nat → Value) (hS : StS base bS T.n rows vs w) (h0 : 0 < T.n) (hl : ∀ k, k < T.n → (rows k).length = T.en k) (hE : ∀ k, k < T.n → T.en k ≤ 1000) :
    Calls Tryz.prog 92 #[.slice (some ⟨bS, 0, none⟩) T.n cap] w (CatPost T rows w) := by
  obtain ⟨j0, hj0, hy0, hy1, hy2⟩ := info_parts infoInt
  have hn := hS.hn
  have s0 : ∀ w', Ext w w' → ∀ k, k < T.n → w'.cell? ⟨bS, k, none⟩ = some (vs k) := fun w' x k hk => x.cell (hS.cell k hk)
  have sb : ∀ w', Ext w w' → bS < w'.heap.size := fun w' x => Nat.lt_of_lt_of_le (cell_lt (hS.cell 0 h0) : bS < w.heap.size) x.le
  have hform : ∀ k, k < T.n → ∃ a c, vs k = .slice a (T.en k) c := fun k hk => by rw [← hl k hk]; exact ⟨_, _, (hS.own k hk).form.1⟩
  have hlen : ∀ k, k ≤ T.n → (T.evsTo k 0).length = tot T.en k := by
    intro k hk
    cases k with
    | zero => rfl
    | succ k => rw [← Tr.evsTo_next, Tr.evsTo_tot T k (T.en k) (by omega) (Nat.le_refl _)]; rfl
  have hbig : ∀ k, k ≤ T.n → tot T.en k ≤ 100000 := fun k hk => Nat.le_trans (tot_small (f := T.en) (n := k) (c := 1000) fun j hj => hE j (by omega)) (by omega)
  have HS := Lib.hid hS
  have HL := Lib.hid hl
  have HF := Lib.hid hform
  have HLN := Lib.hid hlen
  have HBG := Lib.hid hbig
  have HS0 := Lib.hid s0
  have hG := fun n hn W => grow_any n hn W
  have HG := Lib.hid hG
  have hww : Ext w w := Ext.refl _
  clear hS hl hform hlen hbig hG s0
  go_enter Tryz.func92, Tryz.ntmps92
  go_wp2_with fail
  go_loopg [3, 11] T.n (fun gg v3 v11 wr => ∃ k : Nat, k ≤ T.n ∧ gg = T.n - k ∧ v11 = .int .i64 k ∧ v3 = .int .i64 (tot T.en k) ∧ w = wr)
  case atStart => exact ⟨0, by omega, rfl, rfl, rfl, rfl⟩
  case round =>
    obtain ⟨k, hk, rfl, rfl, rfl, rfl⟩ := hrel
    by_cases hlt : k < T.n
    · have hlt' : (k : Int) < (T.n : Int) := by omega
      obtain ⟨ra, rc, hv⟩ := HF.out k hlt
      have sk : ∀ w', Ext w w' → w'.cell? ⟨bS, k, none⟩ = some (.slice ra (T.en k) rc) := fun w' x => by rw [← hv]; exact HS0.out w' x k hlt
      have hb := HBG.out k (by omega)
      have he := hE k hlt
      clear hv
      go_wp2_with fail
      go_roundg (T.n - (k + 1))
      case rel => exact ⟨k + 1, by omega, rfl, by go_num, by show _ = Value.int .i64 ((tot T.en k + T.en k : Nat) : Int); go_num, rfl⟩
      case measure => omega
    · have hke : k = T.n := by omega
      subst hke
      have hb := HBG.out T.n (Nat.le_refl _)
      have hGr := HG.out (tot T.en T.n) (by omega) w
      go_wp2_with (go_at_call 141; refine hGr.mono ?_; rintro e w2 ⟨v2, rfl, hown2, hx2⟩; have HO2 := Lib.hid (Que.own hown2); clear hown2)
      clear hGr
      go_loopg [6, 27] T.n (fun gg v6 v27 wi => ∃ k : Nat, k ≤ T.n ∧ gg = T.n - k ∧ v27 = .int .i64 k ∧ Ext w wi ∧ Que wi w.heap.size 1 v6 (T.flat rows k 0).length (intCells (T.flat rows k 0)))
      case atStart => exact ⟨0, by omega, rfl, rfl, hx2, HO2.out⟩
      case round =>
        obtain ⟨k, hk, rfl, rfl, hxi, hq⟩ := hrel
        have hii : Ext wr wr := Ext.refl _
        have HQ := Lib.hid hq
        clear hq
        by_cases hlt : k < T.n
        · have hlt' : (k : Int) < (T.n : Int) := by omega
          obtain ⟨ra, rc, hv⟩ := HF.out k hlt
          have sk : ∀ w', Ext w w' → w'.cell? ⟨bS, k, none⟩ = some (.slice ra (T.en k) rc) := fun w' x => by rw [← hv]; exact HS0.out w' x k hlt
          have hb2 := HBG.out k (by omega)
          have he := hE k hlt
          have hfl : (T.flat rows k 0).length = tot T.en k := by rw [Tr.flat_len]; exact HLN.out k (by omega)
          have hrl := HL.out k hlt
          have hsrc : Que wr base 1 (.slice ra (T.en k) rc) (rows k).length (intCells (rows k)) := by rw [← hv]; exact Que.own ((HS.out.own k hlt).kept hxi)
          have HSR := Lib.hid hsrc
          clear hv hsrc
          go_wp2_with (at_builtin; refine wpList_append_que _ rfl _ _ 28 28 rfl (base := w.heap.size) (e := 3) (size := 1) j0 (.int .i64 0) 8 Tryz.underlying28 hj0 hy0 hy1 hy2 rfl rfl HQ.out hxi.le _ _ _ rfl (HSR.out.src Tryz.underlying28 (intCells_one _)) (by rw [hfl, hrl]; unfold maxLen; omega) (by rw [hfl, hrl]; omega) ?_; rintro v7 w7 hq7 hg7 -; have H7 := Lib.hid (And.intro hq7 hg7); clear hq7 hg7)
          go_roundg (T.n - (k + 1))
          case rel =>
            refine ⟨k + 1, by omega, rfl, by go_num, Below.trans hxi ((Below.refl _ _).grown H7.out.2 hxi.le HQ.out.block), ?_⟩
            rw [Tr.flat_next hlt hrl, List.length_append, intCells_append]; exact H7.out.1
          case measure => omega
        · have hke : k = T.n := by omega
          subst hke
          go_wp2_with fail
          go_ret
          exact ⟨hxi, _, rfl, HQ.out⟩

end Go.Proofs.YteikcgfnkhoigaaGreat

namespace Go.Proofs.YteikcgfnkhoigaaGreat
open Go.RowKit Go.Shelf

open Classical in
/-- the pair (x, y) is skipped -/
noncomputable def Tr.sk (T : Tr) (rows : Nat → List Int) (x y : Nat) : Nat := if stOf rows (T.evN x) < stOf rows (T.evN y) ∧ ¬ T.bef x y then 1 else 0
/-- how many pairs are skipped -/
noncomputable def Tr.skipN (T : Tr) (rows : Nat → List Int) : Nat := tot (fun x => tot (T.sk rows x) T.evs.length) T.evs.length
theorem Tr.sk_yes {T : Tr} {rows : Nat → List Int} {x y : Nat} (h1 : stOf rows (T.evN x) < stOf rows (T.evN y)) (h2 : ¬ T.bef x y) : T.sk rows x y = 1 := by unfold Tr.sk; rw [if_pos ⟨h1, h2⟩]
theorem Tr.sk_no {T : Tr} {rows : Nat → List Int} {x y : Nat} (h : ¬ (stOf rows (T.evN x) < stOf rows (T.evN y) ∧ ¬ T.bef x y)) : T.sk rows x y = 0 := by unfold Tr.sk; rw [if_neg h]
theorem Tr.sk_le (T : Tr) (rows : Nat → List Int) (x y : Nat) : T.sk rows x y ≤ 1 := by unfold Tr.sk; split <;> omega
theorem Tr.flat_get {T : Tr} {rows : Nat → List Int} {x : Nat} (h : x < T.evs.length) : (T.flat rows T.n 0)[x]? = some (stOf rows (T.evN x)) := by
  have h' : x < (T.evsTo T.n 0).length := h
  unfold Tr.flat
  rw [List.getElem?_map, List.getElem?_eq_getElem h', T.evN_get x h]; rfl
def SkipPost (T : TM) (w : World) (e : Ending) (w' : World) : Prop := Ext w w' ∧
  ((¬ T.toTr.Valid ∧ e = .returned (.tuple #[.int .i64 0, .int .i64 1])) ∨
   (T.toTr.Valid ∧ ∃ rows, T.toTr.Stamps rows ∧ e = .returned (.tuple #[.int .i64 (T.toTr.skipN rows), .int .i64 0])))
set_option maxRecDepth 100000 in
set_option maxHeartbeats 1000000 in
theorem skipped_no (w : World) (T : TM) (hT : T.At w) (hV : ¬ T.toTr.Valid) :
    Calls Tryz.prog 37 #[T.val] w (SkipPost T w) := by
  go_enter Tryz.func37, Tryz.ntmps37
  go_upto_region 1 with fail
  refine boxed1 (w := w) (G := fun x => Code.wp _ _ _ _ x) ?_
  intro w1 hx1 hs1 ⟨l0, c0, _, _⟩
  have hx11 : Ext w1 w1 := Ext.refl _
  have hF : Calls Tryz.prog 45 #[T.val] w1 fun e w' => e = .returned (.tuple #[.slice none 0 0, .int .i64 1]) ∧ Ext w1 w' :=
    (stamps_no w1 T (hT.ext hx1) hV).mono fun e w' ⟨hx, h⟩ => by
      rcases h with ⟨_, h⟩ | ⟨h, _⟩
      · exact ⟨h, hx⟩
      · exact absurd h hV
  clear hs1 hT
  go_wp2_with (go_at_call 45; refine hF.mono ?_; rintro e w2 ⟨rfl, hx2⟩)
  go_ret2
  exact ⟨hx1.trans hx2, .inl ⟨hV, rfl⟩⟩
set_option maxRecDepth 100000 in
set_option maxHeartbeats 2000000 in
theorem skipped_yes (w : World) (T : TM) (hT : T.At w) (hV : T.toTr.Valid) (hN : T.toTr.evs.length ≤ 100) :
    Calls Tryz.prog 37 #[T.val] w (SkipPost T w) := by
  have hn1 := hV.n1
  have hn8 := hV.n8
  have hE8 : ∀ k, k < T.n → T.en k ≤ 64 := fun k hk => (hV.pr k hk).2.2.2.2
  have pa := hT.P.pa (by omega)
  go_enter Tryz.func37, Tryz.ntmps37
  go_upto_region 1 with fail
  refine boxed1 (w := w) (G := fun x => Code.wp _ _ _ _ x) ?_
  intro w1 hx1 hs1 ⟨l0, c0, _, k0⟩
  have hx11 : Ext w1 w1 := Ext.refl _
  have hF : Calls Tryz.prog 45 #[T.val] w1 fun e w' => ∃ base cap rows vs, e = .returned (.tuple #[.slice (some ⟨base, 0, none⟩) T.n cap, .int .i64 0]) ∧ w1.heap.size ≤ base ∧ StS base base T.n rows vs w' ∧ T.toTr.Stamps rows ∧ Ext w1 w' :=
    (stamps_yes w1 T (hT.ext hx1) hV (fun k hk => Nat.le_trans (hE8 k hk) (by omega))).mono fun e w' ⟨hx, h⟩ => by
      rcases h with ⟨h, _⟩ | ⟨_, base, cap, rows, vs, h1, h2, h3, h4⟩
      · exact absurd hV h
      · exact ⟨base, cap, rows, vs, h2, h1, h3, h4, hx⟩
  have hO := fun W (h : Ext w W) => order_any W T (hT.ext h) hV hN
  simp only [TM.val, pa] at hF hO
  have HO := Lib.hid hO
  have HV := Lib.hid hV
  clear hT hV hO hs1
  go_upto_region 5 with (first | (go_at_call 45; refine hF.mono ?_; rintro e w2 ⟨base, cap, rows, vs, rfl, hb2, hs2, hst2, hx2⟩; have HS2 := Lib.hid hs2; have HST := Lib.hid hst2; clear hb2 hs2 hst2) | (go_at_call 91; refine (HO.out _ (hx1.trans hx2)).mono ?_; rintro e w3 ⟨hx3, ra, rg, rcap, S, rfl, hrel⟩; have HR := Lib.hid hrel; clear hrel))
  clear hF
  obtain ⟨N, hNe⟩ : ∃ N, N = T.toTr.evs.length := ⟨_, rfl⟩
  rw [← hNe] at hN HR ⊢
  refine boxed1 (w := w3) (G := fun x => Code.wp _ _ _ _ x) ?_
  intro w4 hx4 hs4 ⟨l4, c4, _, k4⟩
  have hx24 := hx3.trans hx4
  have hC := concat_any w4 T.toTr base base cap rows vs (HS2.out.ext (by omega) hx24) (by omega) (fun k hk => HST.out.len k hk) (fun k hk => Nat.le_trans (hE8 k hk) (by omega))
  have HNE := Lib.hid hNe
  clear hNe
  clear hs4 k4 c0 l0 k0
  go_upto_region 6 with (go_at_call 92; refine hC.mono ?_; rintro e w5 ⟨hx5, v, rfl, hq⟩)
  clear hC
  rw [Tr.flat_len, show (T.toTr.evsTo T.n 0).length = N from HNE.out.symm] at hq
  have hst : ∀ x, x < N → (intCells (T.toTr.flat rows T.n 0))[x]? = some (.int .i64 (stOf rows (T.toTr.evN x))) := fun x hx => by
    unfold intCells; rw [List.getElem?_map, Tr.flat_get (by have := HNE.out; omega)]; rfl
  obtain ⟨ao, acap, ag, aoff, hv, hapa, hapb, hall⟩ : ∃ ao acap ag aoff, v = .slice ao N acap ∧ (0 < N → ao = some ⟨ag, aoff, none⟩) ∧ (0 < N → ∀ w', Ext w5 w' → ag < w'.heap.size) ∧ ∀ w', Ext w5 w' → ∀ x, x < N → w'.cell? ⟨ag, aoff + x, none⟩ = some (.int .i64 (stOf rows (T.toTr.evN x))) := by
    rcases hq.val with ⟨ao, h, h0, _⟩ | ⟨g, off, cp, h, _, h2, _, _, h5, _⟩
    · exact ⟨ao, 0, 0, 0, by rw [h, h0], fun h => by omega, fun h => by omega, fun w' _ x hx => by omega⟩
    · exact ⟨_, cp, g, off, h, fun _ => rfl, fun _ w' x => Nat.lt_of_lt_of_le h2 x.le, fun w' x k hk => x.cell ((h5 k (by omega)).trans (hst k hk))⟩
  subst hv
  have HALL := Lib.hid hall
  have hx55 : Ext w5 w5 := Ext.refl _
  have hR5 := HR.out.same (hx4.trans hx5)
  have c4' : ∀ w', Ext w5 w' → w'.cell? ⟨w3.heap.size, 0, none⟩ = some (.slice ra N rcap) := fun w' h => c4 w' (hx5.trans h) 0
  have l4' : ∀ w', Ext w5 w' → w3.heap.size < w'.heap.size := fun w' h => l4 w' (hx5.trans h)
  have HX5 := Lib.hid (show Ext w w5 from hx1.trans (hx2.trans (hx24.trans hx5)))
  have HR5 := Lib.hid hR5
  clear hst hq hall c4 l4 hR5 hx1 hx2 hx3 hx4 hx24 hx5 hx11 HR HO
  generalize w3.heap.size = ob at c4' l4' ⊢
  have hskb : ∀ x y, y ≤ N → tot (T.toTr.sk rows x) y ≤ 100 := fun x y hy => Nat.le_trans (tot_small (c := 1) fun k _ => T.toTr.sk_le rows x k) (by omega)
  have HKB := Lib.hid hskb
  have HKB2 := Lib.hid (show ∀ x, x ≤ N → tot (fun x => tot (T.toTr.sk rows x) N) x ≤ 10000 from fun x hx => Nat.le_trans (tot_small (c := 100) fun k _ => hskb k N (Nat.le_refl _)) (by omega))
  clear hskb
  go_wp2_with fail
  go_loopg [9, 29] N (fun gg v9 v29 wr => ∃ x : Nat, x ≤ N ∧ gg = N - x ∧ v29 = .int .i64 x ∧ v9 = .int .i64 (tot (fun x => tot (T.toTr.sk rows x) N) x) ∧ Ext w5 wr)
  case atStart => exact ⟨0, by omega, rfl, rfl, rfl, hx55⟩
  case round =>
    obtain ⟨x, hx, rfl, rfl, rfl, hxr⟩ := hrel
    have hb1 := HKB2.out x hx
    by_cases hlt : x < N
    · have hlt' : (x : Int) < (N : Int) := by omega
      obtain rfl := hapa (by omega)
      have hapb := hapb (by omega)
      obtain rfl := HR5.out.pa (by omega)
      have rb := HR5.out.pb (by omega)
      obtain ⟨sx, hsx⟩ : ∃ s, s = stOf rows (T.toTr.evN x) := ⟨_, rfl⟩
      have ex : ∀ w', Ext w5 w' → w'.cell? ⟨ag, aoff + x, none⟩ = some (.int .i64 sx) := fun w' h => by rw [hsx]; exact HALL.out w' h x hlt
      obtain ⟨s, hs⟩ : ∃ s, s = S x := ⟨_, rfl⟩
      have r0 : ∀ w', Ext w5 w' → w'.cell? ⟨rg, x * 2, none⟩ = some (.int .i64 s.N) := fun w' h => by rw [hs]; exact HR5.out.c0 w' h x hlt
      have r1 : ∀ w', Ext w5 w' → w'.cell? ⟨rg, x * 2 + 1, none⟩ = some (.slice s.a s.m s.cap) := fun w' h => by rw [hs]; exact HR5.out.c1 w' h x hlt
      have HSX := Lib.hid hsx
      have HSE := Lib.hid hs
      clear hsx hs
      go_wp2_with fail
      go_loopg [9, 34] N (fun gg v9 v34 wi => ∃ y : Nat, y ≤ N ∧ gg = N - y ∧ v34 = .int .i64 y ∧ v9 = .int .i64 ((tot (fun x => tot (T.toTr.sk rows x) N) x + tot (T.toTr.sk rows x) y : Nat) : Int) ∧ Ext w5 wi)
      case atStart => exact ⟨0, by omega, rfl, rfl, rfl, hxr⟩
      case round =>
        obtain ⟨y, hy, rfl, rfl, rfl, hxj⟩ := hrel
        have hb2 := HKB.out x y hy
        have hjj : Ext wr wr := Ext.refl _
        by_cases hly : y < N
        · have hly' : (y : Int) < (N : Int) := by omega
          obtain ⟨sy, hsy⟩ : ∃ s, s = stOf rows (T.toTr.evN y) := ⟨_, rfl⟩
          have ey : ∀ w', Ext w5 w' → w'.cell? ⟨ag, aoff + y, none⟩ = some (.int .i64 sy) := fun w' h => by rw [hsy]; exact HALL.out w' h y hly
          have HSY := Lib.hid hsy
          have hg5 : ∀ d os, Ext w5 (Sort.grow (redrawn wr d) os) := fun d os => hxj.trans (below_regrown wr d os)
          clear hsy
          by_cases hss : sx < sy
          · have ds : decide (sx < sy) = true := decide_eq_true hss
            obtain ⟨b, hb⟩ : ∃ b, b = (s.wd (y / 64)).testBit (y % 64) := ⟨_, rfl⟩
            have hHs : ∀ W, Ext w5 W → Calls Tryz.prog 93 #[.agg #[.int .i64 s.N, .slice s.a s.m s.cap], .int .i64 y] W fun e w' => e = .returned (.bool b) ∧ Ext W w' := fun W h => by
              have := HR5.out.set x hlt
              rw [← HSE.out] at this
              rw [hb]; exact bhas_any s N y W (this.1.ext h) this.2 hly
            have HBB := Lib.hid (show b = true ↔ T.toTr.bef x y by rw [hb, HSE.out]; exact HR5.out.bit x y hlt hly)
            have HHs := Lib.hid hHs
            clear hHs hb
            cases b with
            | true =>
              have HSK := Lib.hid (show T.toTr.sk rows x y = 0 from Tr.sk_no fun h => h.2 (HBB.out.1 rfl))
              clear HBB
              go_upto_region 13 with fail
              refine wp_region_quiet_below (by kernel_rfl) (by kernel_rfl) ?_
              repeat (go_big_quiet_step (exact Calls.regrown_of (HHs.out _ (hg5 _ _))))
              refine wpQuiet_nil ?_
              intro _ hw'
              obtain ⟨⟨dq, osq⟩, hw''⟩ := hw'
              subst hw''
              have hx9 := below_regrown wr dq osq
              generalize Sort.grow (redrawn wr dq) osq = w9 at hx9 ⊢
              have hx59 : Ext w5 w9 := hxj.trans hx9
              go_wp2_with fail
              go_roundg (N - (y + 1))
              case rel => exact ⟨y + 1, by omega, rfl, by go_num, by show _ = Value.int .i64 ((tot (fun x => tot (T.toTr.sk rows x) N) x + (tot (T.toTr.sk rows x) y + T.toTr.sk rows x y) : Nat) : Int); rw [HSK.out]; go_num, hx59⟩
              case measure => omega
            | false =>
              have HSK := Lib.hid (show T.toTr.sk rows x y = 1 from Tr.sk_yes (by rw [← HSX.out, ← HSY.out]; exact hss) fun h => by have := HBB.out.2 h; cases this)
              clear HBB
              go_upto_region 13 with fail
              refine wp_region_quiet_below (by kernel_rfl) (by kernel_rfl) ?_
              repeat (go_big_quiet_step (exact Calls.regrown_of (HHs.out _ (hg5 _ _))))
              refine wpQuiet_nil ?_
              intro _ hw'
              obtain ⟨⟨dq, osq⟩, hw''⟩ := hw'
              subst hw''
              have hx9 := below_regrown wr dq osq
              generalize Sort.grow (redrawn wr dq) osq = w9 at hx9 ⊢
              have hx59 : Ext w5 w9 := hxj.trans hx9
              go_wp2_with fail
              go_roundg (N - (y + 1))
              case rel => exact ⟨y + 1, by omega, rfl, by go_num, by show _ = Value.int .i64 ((tot (fun x => tot (T.toTr.sk rows x) N) x + (tot (T.toTr.sk rows x) y + T.toTr.sk rows x y) : Nat) : Int); rw [HSK.out]; go_num, hx59⟩
              case measure => omega
          · have ds : decide (sx < sy) = false := decide_eq_false hss
            have HSK := Lib.hid (show T.toTr.sk rows x y = 0 from Tr.sk_no fun h => hss (by rw [HSX.out, HSY.out]; exact h.1))
            have HHs := Lib.hid (show ∀ W, Ext w5 W → True from fun _ _ => trivial)
            go_upto_region 13 with fail
            refine wp_region_quiet_below (by kernel_rfl) (by kernel_rfl) ?_
            repeat (go_big_quiet_step (exact Calls.regrown_of (HHs.out _ (hg5 _ _))))
            refine wpQuiet_nil ?_
            intro _ hw'
            obtain ⟨⟨dq, osq⟩, hw''⟩ := hw'
            subst hw''
            have hx9 := below_regrown wr dq osq
            generalize Sort.grow (redrawn wr dq) osq = w9 at hx9 ⊢
            have hx59 : Ext w5 w9 := hxj.trans hx9
            go_wp2_with fail
            go_roundg (N - (y + 1))
            case rel => exact ⟨y + 1, by omega, rfl, by go_num, by show _ = Value.int .i64 ((tot (fun x => tot (T.toTr.sk rows x) N) x + (tot (T.toTr.sk rows x) y + T.toTr.sk rows x y) : Nat) : Int); rw [HSK.out]; go_num, hx59⟩
            case measure => omega
        · have hye : y = N := by omega
          subst hye
          go_wp2_with fail
          go_roundg (y - (x + 1))
          case rel => exact ⟨x + 1, by omega, rfl, by go_num, rfl, hxj⟩
          case measure => omega
    · have hxe : x = N := by omega
      subst hxe
      go_wp2_with fail
      go_ret2
      exact ⟨HX5.out.trans hxr, .inr ⟨HV.out, rows, HST.out, by unfold Tr.skipN; rw [← HNE.out]; rfl⟩⟩

end Go.Proofs.YteikcgfnkhoigaaGreat
