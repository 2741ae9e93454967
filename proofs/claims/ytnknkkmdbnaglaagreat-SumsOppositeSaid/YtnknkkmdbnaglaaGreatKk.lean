/- For causality.Order: the events by number, happened-before, the rows of later events. Contract: causality.Order. Contracts: slices.Grow (from nil) and slices.Concat at []int. Contract: lamport.Skipped. -/
import Derived.Test.YtnknkkmdbnaglaaGreatKj
import Derived.Test.YtnknkkmdbnaglaaGreatKi
import Derived.Lib.AppendZeros
import Derived.Lib.QuietBelow
namespace Go.Proofs.YtnknkkmdbnaglaaGreat
open Go.RowKit Go.Shelf

/-- event number k -/
def Tr.evN (T : Tr) (k : Nat) : NN := (T.evs.map (·.1)).getD k (0, 0)
theorem Tr.evN_get (T : Tr) (k : Nat) (h : k < T.evs.length) : T.evN k = (T.evs[k]).1 := by
  unfold Tr.evN; rw [List.getD_eq_getElem?_getD, List.getElem?_eq_getElem (by simpa using h)]; simp
theorem Tr.evN_V (T : Tr) (k : Nat) (h : k < T.evs.length) : T.V (T.evN k) := by
  rw [T.evN_get k h]; exact T.evs[k].2
/-- number i happened before number j -/
def Tr.bef (T : Tr) (i j : Nat) : Prop := T.evN i ≠ T.evN j ∧ T.Past (T.evN j) (T.evN i)
open Classical in
/-- the numbers below j of the events after number i -/
noncomputable def Tr.lat (T : Tr) (j i : Nat) : List Int := ((List.range j).filter fun k => decide (T.bef i k)).map fun (k : Nat) => (k : Int)
theorem Tr.lat_zero (T : Tr) (i : Nat) : T.lat 0 i = [] := rfl
theorem Tr.lat_yes {T : Tr} {j i : Nat} (h : T.bef i j) : T.lat (j + 1) i = T.lat j i ++ [(j : Int)] := by
  unfold Tr.lat; rw [List.range_succ, List.filter_append, List.map_append]; simp [h]
theorem Tr.lat_no {T : Tr} {j i : Nat} (h : ¬ T.bef i j) : T.lat (j + 1) i = T.lat j i := by
  unfold Tr.lat; rw [List.range_succ, List.filter_append, List.map_append]; simp [h]
theorem Tr.lat_len (T : Tr) (j i : Nat) : (T.lat j i).length ≤ j := by
  unfold Tr.lat; rw [List.length_map]
  exact Nat.le_trans (List.length_filter_le _ _) (by simp)
open Classical in
theorem Tr.lat_mem {T : Tr} {j i : Nat} {x : Int} : x ∈ T.lat j i ↔ ∃ k : Nat, k < j ∧ T.bef i k ∧ x = k := by
  unfold Tr.lat
  constructor
  · intro h
    obtain ⟨k, hk, rfl⟩ := List.mem_map.1 h
    have := List.mem_filter.1 hk
    exact ⟨k, List.mem_range.1 this.1, of_decide_eq_true this.2, rfl⟩
  · rintro ⟨k, h1, h2, rfl⟩
    exact List.mem_map.2 ⟨k, List.mem_filter.2 ⟨List.mem_range.2 h1, decide_eq_true h2⟩, rfl⟩
/-- the rows while they grow: row k has the numbers up to j if k < i, else below j -/
noncomputable def Tr.rowsAt (T : Tr) (j i : Nat) : Nat → List Int := fun k => if k < i then T.lat (j + 1) k else T.lat j k
theorem Tr.rowsAt_zero (T : Tr) (j : Nat) : T.rowsAt j 0 = T.lat j := by funext k; unfold Tr.rowsAt; rw [if_neg (by omega)]
theorem Tr.rowsAt_self (T : Tr) (j i : Nat) : T.rowsAt j i i = T.lat j i := by unfold Tr.rowsAt; rw [if_neg (by omega)]
theorem Tr.rowsAt_yes {T : Tr} {j i : Nat} (h : T.bef i j) : updR (T.rowsAt j i) i (T.rowsAt j i i ++ [(j : Int)]) = T.rowsAt j (i + 1) := by
  funext k
  unfold updR
  by_cases e : k = i
  · subst e; rw [if_pos rfl, Tr.rowsAt_self]; unfold Tr.rowsAt; rw [if_pos (by omega), Tr.lat_yes h]
  · rw [if_neg e]; unfold Tr.rowsAt
    by_cases h2 : k < i
    · rw [if_pos h2, if_pos (by omega)]
    · rw [if_neg h2, if_neg (by omega)]
theorem Tr.rowsAt_no {T : Tr} {j i : Nat} (h : ¬ T.bef i j) : T.rowsAt j i = T.rowsAt j (i + 1) := by
  funext k
  by_cases e : k = i
  · subst e; rw [Tr.rowsAt_self]; unfold Tr.rowsAt; rw [if_pos (by omega), Tr.lat_no h]
  · unfold Tr.rowsAt
    by_cases h2 : k < i
    · rw [if_pos h2, if_pos (by omega)]
    · rw [if_neg h2, if_neg (by omega)]
theorem StS.congr {base bS n : Nat} {r r' : Nat → List Int} {vs : Nat → Value} {w : World} (h : StS base bS n r vs w) (he : ∀ k, k < n → r k = r' k) : StS base bS n r' vs w :=
  ⟨h.hn, h.cell, h.froz, fun k hk => by rw [← he k hk]; exact h.own k hk, h.apart, h.off, fun k hk => by rw [← he k hk]; exact h.len k hk⟩
/-- block z is none of the rows' -/
structure Far (bS n : Nat) (vs : Nat → Value) (w : World) (z : Nat) : Prop where
  ne : z ≠ bS
  lt : z < w.heap.size
  row : ∀ k, k < n → (vs k).ownBlock ≠ some z
theorem Far.push {bS n p : Nat} {vs : Nat → Value} {w w' : World} {z : Nat} {v' : Value} {c : Array Value} {t : TypeId} (h : Far bS n vs w z) (hp : p < n) (hg : (w.alloc (.cells c t)).grownBy w' (vs p).ownBlock)
    (hat : v'.ownBlock = (vs p).ownBlock ∨ v'.ownBlock = some (w.alloc (.cells c t)).heap.size) : Far bS n (updV vs p v') (w'.setCell ⟨bS, p, none⟩ v') z ∧ (w'.setCell ⟨bS, p, none⟩ v').heap[z]? = w.heap[z]? := by
  have hz : w'.heap[z]? = w.heap[z]? := by
    rw [hg.block z (by rw [World.size_alloc]; have := h.lt; omega) (fun e => h.row p hp e.symm), Below.heap_alloc _ _ _ h.lt]
  refine ⟨⟨h.ne, by rw [World.size_setCell]; have := hg.size; rw [World.size_alloc] at this; have := h.lt; omega, fun k hk e => ?_⟩, (Below.heap_setCell _ _ _ _ h.ne).trans hz⟩
  unfold updV at e
  by_cases ek : k = p
  · rw [if_pos ek] at e
    rcases hat with h1 | h1
    · exact h.row p hp (h1 ▸ e)
    · rw [h1, World.size_alloc] at e; have := h.lt; simp at e; omega
  · rw [if_neg ek] at e; exact h.row k hk e
theorem Far.ext {bS n : Nat} {vs : Nat → Value} {w w' : World} {z : Nat} (h : Far bS n vs w z) (x : Ext w w') : Far bS n vs w' z := ⟨h.ne, Nat.lt_of_lt_of_le h.lt x.le, h.row⟩
/-- a new block is far -/
theorem Far.new {base bS n : Nat} {rows : Nat → List Int} {vs : Nat → Value} {w w' : World} {z : Nat} (h : StS base bS n rows vs w) (h0 : 0 < n) (hz : w.heap.size ≤ z) (hz' : z < w'.heap.size) : Far bS n vs w' z :=
  ⟨by have : bS < w.heap.size := cell_lt (h.cell 0 h0); omega, hz', fun k hk e => by have := (h.own k hk).lt z e; omega⟩
theorem Hold.at {w w' : World} {b : Nat} {c : Array Value} (h : Hold w b c) (e : w'.heap[b]? = w.heap[b]?) : Hold w' b c := by
  obtain ⟨t, h⟩ := h; exact ⟨t, e.trans h⟩

/-- sets in a row, two cells each -/
def setRow (S : Nat → SetM) : Nat → List Value
  | 0 => []
  | n + 1 => setRow S n ++ [.int .i64 (S n).N, .slice (S n).a (S n).m (S n).cap]
theorem setRow_len (S : Nat → SetM) : ∀ n, (setRow S n).length = n * 2
  | 0 => rfl
  | n + 1 => by rw [setRow, List.length_append, setRow_len S n]; simp; omega
theorem setRow_get (S : Nat → SetM) : ∀ (n k : Nat), k < n → (setRow S n)[k * 2]? = some (.int .i64 (S k).N) ∧ (setRow S n)[k * 2 + 1]? = some (.slice (S k).a (S k).m (S k).cap)
  | 0, _, h => by omega
  | n + 1, k, h => by
    rw [setRow]
    have hl := setRow_len S n
    by_cases e : k < n
    · have := setRow_get S n k e
      rw [List.getElem?_append_left (by omega), List.getElem?_append_left (by omega)]; exact this
    · obtain rfl : k = n := by omega
      rw [List.getElem?_append_right (by omega), List.getElem?_append_right (by omega), hl, show k * 2 - k * 2 = 0 by omega, show k * 2 + 1 - k * 2 = 1 by omega]
      exact ⟨rfl, rfl⟩
theorem setRow_congr {S S' : Nat → SetM} : ∀ {n : Nat}, (∀ k, k < n → S k = S' k) → setRow S n = setRow S' n
  | 0, _ => rfl
  | n + 1, h => by rw [setRow, setRow, setRow_congr (n := n) fun k hk => h k (by omega), h n (by omega)]
theorem SetM.At.same {S : SetM} {w w' : World} (h : S.At w) (hs : w.heap.size ≤ w'.heap.size) (e : 0 < S.m → w'.heap[S.b]? = w.heap[S.b]?) : S.At w' := by
  refine ⟨h.hm, h.pa, fun h0 w2 x => Nat.lt_of_lt_of_le (h.pb h0 w (Ext.refl _)) (Nat.le_trans hs x.le), fun w2 x k hk => ?_, h.u⟩
  have hb := h.pb (by omega) w (Ext.refl _)
  have e1 : w2.heap[S.b]? = w.heap[S.b]? := (x.block _ (by omega)).trans (e (by omega))
  rw [World.cell?_of_block (w := w) (a := ⟨S.b, S.off + k, none⟩) e1]; exact h.p0 w (Ext.refl _) k hk
def updS (S : Nat → SetM) (n : Nat) (s : SetM) : Nat → SetM := fun k => if k = n then s else S k
/-- the relation while it grows: n rows of sets; v is its slice (block from B on), bx the box that holds v -/
structure RelI (w7 : World) (bx N n : Nat) (v : Value) (S : Nat → SetM) (bit : Nat → Nat → Prop) (wr : World) : Prop where
  bl : Ext w7 wr
  hb : w7.heap.size ≤ bx
  box : Hold wr bx #[v]
  own : wr.ownsRow (bx + 1) 208 2 v n (setRow S n)
  set : ∀ k, k < n → (S k).At wr ∧ (S k).Good N ∧ (0 < (S k).m → bx < (S k).b ∧ v.ownBlock ≠ some (S k).b)
  bit : ∀ k i, k < n → i < N → (((S k).wd (i / 64)).testBit (i % 64) = true ↔ bit k i)
theorem RelI.ext {w7 : World} {bx N n : Nat} {v : Value} {S : Nat → SetM} {bit : Nat → Nat → Prop} {wr w' : World} (h : RelI w7 bx N n v S bit wr) (x : Ext wr w') : RelI w7 bx N n v S bit w' :=
  ⟨h.bl.trans x, h.hb, h.box.ext x, h.own.kept (row := none) ⟨x.os, x.tape, x.output, x.size, fun k hk _ => x.block k hk⟩ (by cases v.ownBlock <;> simp), fun k hk => ⟨(h.set k hk).1.ext x, (h.set k hk).2⟩, h.bit⟩
/-- a set is appended and the slice laid into its box -/
theorem RelI.push {w7 : World} {bx N n : Nat} {v v' : Value} {S : Nat → SetM} {bit : Nat → Nat → Prop} {wr w4 w6 : World} {s : SetM} {c : Array Value} {t : TypeId} (h : RelI w7 bx N n v S bit wr) (x4 : Ext wr w4)
    (hs : s.At w4) (hG : s.Good N) (hsb : wr.heap.size ≤ s.b) (hbit : ∀ i, i < N → ((s.wd (i / 64)).testBit (i % 64) = true ↔ bit n i))
    (ho : w6.ownsRow (bx + 1) 208 2 v' (n + 1) (setRow S n ++ [.int .i64 s.N, .slice s.a s.m s.cap])) (hg : (w4.alloc (.cells c t)).grownBy w6 v.ownBlock)
    (hat : v'.ownBlock = v.ownBlock ∨ v'.ownBlock = some (w4.alloc (.cells c t)).heap.size) :
    RelI w7 bx N (n + 1) v' (updS S n s) bit (w6.setCell ⟨bx, 0, none⟩ v') ∧ w6.cell? ⟨bx, 0, none⟩ = some v ∧ w6.frozen? ⟨bx, 0, none⟩ = false := by
  have h4 := h.ext x4
  have hvb := h4.own.lt
  have hbx := h4.box.lt
  have hfar : ∀ z, z < w4.heap.size → v.ownBlock ≠ some z → w6.heap[z]? = w4.heap[z]? := fun z hz hne => by
    rw [hg.block z (by rw [World.size_alloc]; omega) (fun e => hne e.symm), Below.heap_alloc _ _ _ hz]
  have hbx6 : w6.heap[bx]? = w4.heap[bx]? := hfar bx hbx (fun e => by have := (hvb bx e).1; omega)
  have hsz6 : w4.heap.size < w6.heap.size := by have := hg.size; rw [World.size_alloc] at this; omega
  have hset : ∀ z, z ≠ bx → (w6.setCell ⟨bx, 0, none⟩ v').heap[z]? = w6.heap[z]? := fun z hz => Below.heap_setCell _ _ _ _ hz
  have hold6 : Hold w6 bx #[v] := h4.box.at hbx6
  have hne' : ∀ z, z < w4.heap.size → v.ownBlock ≠ some z → v'.ownBlock ≠ some z := fun z hz hne e => by
    rcases hat with h1 | h1
    · exact hne (h1 ▸ e)
    · rw [h1, World.size_alloc] at e; simp at e; omega
  refine ⟨⟨?_, h.hb, hold6.set 0 v', ?_, fun k hk => ?_, fun k i hk hi => ?_⟩, hold6.cell0 0, hold6.box.frozen w6 (Ext.refl _) 0⟩
  · have b1 : Below w7.heap.size w4 w6 := by
      refine (((Below.refl _ w4).alloc h4.bl.le _).grown hg (by rw [World.size_alloc]; have := h4.bl.le; omega) fun k e => ?_)
      have := (hvb k e).1; have := h.hb; omega
    exact Below.trans h4.bl (b1.setCell (by show _ ≤ bx; exact h.hb) _)
  · have e : setRow (updS S n s) (n + 1) = setRow S n ++ [.int .i64 s.N, .slice s.a s.m s.cap] := by
      rw [setRow, setRow_congr (S' := S) fun k hk => by unfold updS; rw [if_neg (by omega)]]
      unfold updS; rw [if_pos rfl]
    rw [e]
    have hb' : ∀ k, v'.ownBlock = some k → bx ≠ k := fun k e => by have := (ho.lt k e).1; omega
    exact ho.kept (row := some bx) ⟨rfl, rfl, rfl, by rw [World.size_setCell]; exact Nat.le_refl _, fun k _ hne => hset k (fun e => hne (by rw [e]))⟩ (by
      cases hv : v'.ownBlock with
      | none => exact .inl rfl
      | some k => right; intro e; cases e; exact hb' _ hv rfl)
  · unfold updS
    by_cases e : k = n
    · rw [if_pos e]
      refine ⟨hs.same (by rw [World.size_setCell]; omega) fun h0 => ?_, hG, fun h0 => ⟨?_, ?_⟩⟩
      · have hb := hs.pb h0 w4 (Ext.refl _)
        have hbxr := h.box.lt
        rw [hset _ (by omega)]
        exact hfar _ hb (fun e => by have := (h.own.lt _ e).2; omega)
      · have := h.box.lt; omega
      · exact hne' _ (hs.pb h0 w4 (Ext.refl _)) (fun e => by have := (h.own.lt _ e).2; omega)
    · rw [if_neg e]
      obtain ⟨a1, a2, a3⟩ := h4.set k (by omega)
      refine ⟨a1.same (by rw [World.size_setCell]; omega) fun h0 => ?_, a2, fun h0 => ⟨(a3 h0).1, ?_⟩⟩
      · have hb := a1.pb h0 w4 (Ext.refl _)
        rw [hset _ (by have := (a3 h0).1; omega)]
        exact hfar _ hb (a3 h0).2
      · exact hne' _ (a1.pb h0 w4 (Ext.refl _)) (a3 h0).2
  · unfold updS
    by_cases e : k = n
    · rw [if_pos e, e]; exact hbit i hi
    · rw [if_neg e]; exact h.bit k i (by omega) hi
/-- a relation on N numbers in memory -/
structure RelAt (a : Option Addr) (g N cap : Nat) (S : Nat → SetM) (bit : Nat → Nat → Prop) (w : World) : Prop where
  pa : 0 < N → a = some ⟨g, 0, none⟩
  pb : 0 < N → ∀ w', Ext w w' → g < w'.heap.size
  c0 : ∀ w', Ext w w' → ∀ k, k < N → w'.cell? ⟨g, k * 2, none⟩ = some (.int .i64 (S k).N)
  c1 : ∀ w', Ext w w' → ∀ k, k < N → w'.cell? ⟨g, k * 2 + 1, none⟩ = some (.slice (S k).a (S k).m (S k).cap)
  set : ∀ k, k < N → (S k).At w ∧ (S k).Good N
  bit : ∀ k i, k < N → i < N → (((S k).wd (i / 64)).testBit (i % 64) = true ↔ bit k i)
theorem RelI.at {w7 : World} {bx N z : Nat} {v : Value} {S : Nat → SetM} {bit : Nat → Nat → Prop} {wr : World} (h : RelI w7 bx N N v S bit wr) (hz : z < w7.heap.size) : ∃ a g cap, v = .slice a N cap ∧ ∀ w', Only z wr w' → RelAt a g N cap S bit w' := by
  obtain ⟨h1, ⟨hv, hn⟩ | ⟨g, cap, cur, hv, hg, hh, hc, hm, hs, ht⟩⟩ := h.own
  · subst hn
    exact ⟨none, 0, 0, hv, fun w' _ => ⟨fun h => by omega, fun h => by omega, fun _ _ k h => by omega, fun _ _ k h => by omega, fun k h => by omega, fun k i h => by omega⟩⟩
  · have hget : ∀ j, j < N * 2 → cur[j]? = (setRow S N)[j]? := fun j hj => by rw [← ht, List.getElem?_take_of_lt hj]; simp
    have hbx := h.hb
    refine ⟨_, g, cap, hv, fun w' ho => ?_⟩
    have hb := Box.of (w := w') ((ho.block g (by omega)).trans hh)
    refine ⟨fun _ => rfl, fun _ => hb.lt, fun w2 x k hk => ?_, fun w2 x k hk => ?_, fun k hk => ⟨(h.set k hk).1.same (Nat.le_of_eq ho.size.symm) fun h0 => ho.block _ (by have := ((h.set k hk).2.2 h0).1; omega), (h.set k hk).2.1⟩, h.bit⟩
    · rw [hb.cell w2 x, hget _ (by omega)]; exact (setRow_get S N k hk).1
    · rw [hb.cell w2 x, hget _ (by omega)]; exact (setRow_get S N k hk).2
theorem RelAt.same {a : Option Addr} {g N cap : Nat} {S : Nat → SetM} {bit : Nat → Nat → Prop} {w w' : World} (h : RelAt a g N cap S bit w) (x : Ext w w') : RelAt a g N cap S bit w' :=
  ⟨h.pa, fun h0 w2 y => h.pb h0 w2 (x.trans y), fun w2 y => h.c0 w2 (x.trans y), fun w2 y => h.c1 w2 (x.trans y), fun k hk => ⟨(h.set k hk).1.ext x, (h.set k hk).2⟩, h.bit⟩

end Go.Proofs.YtnknkkmdbnaglaaGreat

namespace Go.Proofs.YtnknkkmdbnaglaaGreat
open Go.RowKit Go.Shelf

theorem infoSet : (Tryz.prog.info? 208).map (fun i => (i.zero, i.size, i.bytes)) = some (some (.agg #[.int .i64 0, .slice none 0 0]), 2, 32) := by kernel_rfl
/-- all that lay when the rows were made: the boxes, what is known, the list of events -/
structure OrdB (T : TM) (w : World) (bk bs br : Nat) (v6 : Value) (wr : World) : Prop where
  h0 : Hold wr w.heap.size #[.slice (some ⟨T.b, T.off, none⟩) T.n T.cap]
  h1 : Hold wr (w.heap.size + 1) #[.slice none 0 0]
  hk : Hold wr bk #[.slice (some ⟨T.b, T.off, none⟩) T.n T.cap, .map (some bs), .map (some br)]
  kn : KnAt T bs br wr
  ev : EvOwn wr (w.heap.size + 1 + 1) v6 (T.toTr.evs.map fun x => evI x.1)
  bl : Ext w wr
theorem OrdB.below {T : TM} {w : World} {bk bs br : Nat} {v6 : Value} {wr w' : World} (h : OrdB T w bk bs br v6 wr) {B : Nat} {W : World} (x : Below B W w') (hB : wr.heap.size ≤ B) (e : Below B wr W) : OrdB T w bk bs br v6 w' := by
  have y : Ext wr w' := Below.mono (Below.trans e x) hB
  exact ⟨h.h0.ext y, h.h1.ext y, h.hk.ext y, h.kn.ext y, h.ev.kept y, h.bl.trans y⟩
theorem OrdB.ext {T : TM} {w : World} {bk bs br : Nat} {v6 : Value} {wr w' : World} (h : OrdB T w bk bs br v6 wr) (y : Ext wr w') : OrdB T w bk bs br v6 w' :=
  ⟨h.h0.ext y, h.h1.ext y, h.hk.ext y, h.kn.ext y, h.ev.kept y, h.bl.trans y⟩
theorem OrdB.fin {T : TM} {w w1 w4 wx : World} {bz bs br base : Nat} {v6 : Value} {c : Array Value} (hs1 : w1.heap.size = w.heap.size + 1 + 1) (x1 : Ext w w1)
    (k0 : Hold w1 w.heap.size #[.slice (some ⟨T.b, T.off, none⟩) T.n T.cap]) (k1 : Hold w1 (w.heap.size + 1) #[.slice none 0 0]) (x4 : Ext w1 w4) (hz : Hold w4 bz c) (hzb : w1.heap.size ≤ bz)
    (kn : KnAt T bs br w4) (ev : EvOwn w4 base v6 (T.toTr.evs.map fun x => evI x.1)) (hb : w1.heap.size ≤ base) (hne : v6.ownBlock ≠ some bz) (ho : Only bz w4 wx)
    (hk : Hold wx bz #[.slice (some ⟨T.b, T.off, none⟩) T.n T.cap, .map (some bs), .map (some br)]) : OrdB T w bz bs br v6 wx := by
  have hmap : ∀ b L, MapAt w4 b L → b ≠ bz := by
    intro b L ⟨es, cl, h1, _⟩ e
    obtain ⟨t, h2⟩ := hz
    rw [e, h2] at h1; cases h1
  refine ⟨ho.hold (k0.ext x4) (by omega), ho.hold (k1.ext x4) (by omega), hk, ⟨kn.s.same (ho.block _ (hmap _ _ kn.s)), kn.r.same (ho.block _ (hmap _ _ kn.r))⟩, ?_, Below.trans (x1.trans x4) (ho.below (by have := x1.le; omega))⟩
  exact World.ownsRow.mono (EvOwn.same ev fun g e => ho.block g (fun e' => hne (e' ▸ e))) (by omega)
theorem own_slice2 {w : World} {base : Nat} {t : TypeId} {v : Value} {n : Nat} {xs : List Value} (h : w.ownsRow base t 2 v (n + 1) xs) : ∃ a c, v = .slice a (n + 1) c := by
  obtain ⟨_, ⟨hv, hn⟩ | ⟨g, cap, cur, hv, _⟩⟩ := h
  · omega
  · exact ⟨_, _, hv⟩
theorem drewd {w : World} {n : Nat} {G : World → Prop} (h : ∀ w', Ext w w' → G w') : G (w.drewN n) := h _ ((Ext.refl _).drewN _)
theorem Box.newD {w W : World} {c : Array Value} {t : TypeId} (h : Ext (w.drew.alloc (.cells c t)) W) : Box W w.heap.size c := Box.ext (Hold.new w.drew c t).box h
theorem Box.newP {w W : World} {c : Array Value} {t : TypeId} (h : Ext (w.alloc (.cells c t)) W) : Box W w.heap.size c := Box.ext (Hold.new w c t).box h
def OrderPost (T : TM) (w : World) (e : Ending) (w' : World) : Prop := Ext w w' ∧ ∃ a g cap S, e = .returned (.tuple #[.agg #[.slice a T.toTr.evs.length cap], .int .i64 0]) ∧ RelAt a g T.toTr.evs.length cap S T.toTr.bef w'

end Go.Proofs.YtnknkkmdbnaglaaGreat

namespace Go.Proofs.YtnknkkmdbnaglaaGreat
open Go.RowKit Go.Shelf

theorem grow_own {w : World} (n cap : Nat) (hc : n ≤ cap) (hm : cap ≤ maxLen) : (w.drew.alloc (.cells (Builtin.zeroCells #[.int .i64 0] n ++ Builtin.zeroCells #[.int .i64 0] (cap - n)) 3)).ownsRow w.heap.size 3 1 (.slice (some ⟨w.heap.size, 0, none⟩) 0 cap) 0 [] := by
  refine ⟨rfl, .inr ⟨w.heap.size, cap, Builtin.zeroCells #[.int .i64 0] n ++ Builtin.zeroCells #[.int .i64 0] (cap - n), rfl, Nat.le_refl _, ?_, Nat.zero_le _, hm, ?_, by simp⟩⟩
  · show (w.heap.push _)[w.heap.size]? = _
    simp
  · rw [Array.size_append, size_zeroCells, size_zeroCells]; simp; omega
/-- the numbers of a matrix, by events -/
def Tr.flat (T : Tr) (rows : Nat → List Int) (k i : Nat) : List Int := (T.evsTo k i).map fun e => (rows e.1.1).getD e.1.2 0
theorem Tr.flat_row {T : Tr} {rows : Nat → List Int} {k : Nat} (hk : k < T.n) : ∀ i, i ≤ T.en k → T.flat rows k i = T.flat rows k 0 ++ (List.range i).map fun j => (rows k).getD j 0
  | 0, _ => by simp
  | i + 1, h => by
    have ih := Tr.flat_row (T := T) (rows := rows) hk i (by omega)
    unfold Tr.flat at ih ⊢
    rw [Tr.evsTo_succ _ _ _ hk h, List.map_append, ih, List.range_succ, List.map_append, List.append_assoc]; rfl
theorem Tr.flat_next {T : Tr} {rows : Nat → List Int} {k : Nat} (hk : k < T.n) (hl : (rows k).length = T.en k) : T.flat rows (k + 1) 0 = T.flat rows k 0 ++ rows k := by
  have h := Tr.flat_row (T := T) (rows := rows) hk (T.en k) (Nat.le_refl _)
  have e : T.flat rows (k + 1) 0 = T.flat rows k (T.en k) := by unfold Tr.flat; rw [Tr.evsTo_next]
  rw [e, h]
  congr 1
  apply List.ext_getElem
  · simp [hl]
  · intro j h1 h2
    simp [List.getD_eq_getElem?_getD, List.getElem?_eq_getElem h2]
theorem Tr.flat_len {T : Tr} {rows : Nat → List Int} (k i : Nat) : (T.flat rows k i).length = (T.evsTo k i).length := by unfold Tr.flat; simp
theorem intCells_append (a b : List Int) : intCells (a ++ b) = intCells a ++ intCells b := by simp [intCells]
def CatPost (T : Tr) (rows : Nat → List Int) (w : World) (e : Ending) (w' : World) : Prop := Ext w w' ∧ ∃ v, e = .returned v ∧ Que w' w.heap.size 1 v (T.flat rows T.n 0).length (intCells (T.flat rows T.n 0))

end Go.Proofs.YtnknkkmdbnaglaaGreat

namespace Go.Proofs.YtnknkkmdbnaglaaGreat
open Go.RowKit Go.Shelf

open Classical in
/-- the pair (x, y) is skipped -/
noncomputable def Tr.sk (T : Tr) (rows : Nat → List Int) (x y : Nat) : Nat := if stOf rows (T.evN x) < stOf rows (T.evN y) ∧ ¬ T.bef x y then 1 else 0
/-- how many pairs are skipped -/
noncomputable def Tr.skipN (T : Tr) (rows : Nat → List Int) : Nat := tot (fun x => tot (T.sk rows x) T.evs.length) T.evs.length
theorem Tr.sk_yes {T : Tr} {rows : Nat → List Int} {x y : Nat} (h1 : stOf rows (T.evN x) < stOf rows (T.evN y)) (h2 : ¬ T.bef x y) : T.sk rows x y = 1 := by unfold Tr.sk; rw [if_pos ⟨h1, h2⟩]
theorem Tr.sk_no {T : Tr} {rows : Nat → List Int} {x y : Nat} (h : ¬ (stOf rows (T.evN x) < stOf rows (T.evN y) ∧ ¬ T.bef x y)) : T.sk rows x y = 0 := by unfold Tr.sk; rw [if_neg h]
theorem Tr.sk_le (T : Tr) (rows : Nat → List Int) (x y : Nat) : T.sk rows x y ≤ 1 := by unfold Tr.sk; split <;> omega
theorem Tr.flat_get {T : Tr} {rows : Nat → List Int} {x : Nat} (h : x < T.evs.length) : (T.flat rows T.n 0)[x]? = some (stOf rows (T.evN x)) := by
  have h' : x < (T.evsTo T.n 0).length := h
  unfold Tr.flat
  rw [List.getElem?_map, List.getElem?_eq_getElem h', T.evN_get x h]; rfl
def SkipPost (T : TM) (w : World) (e : Ending) (w' : World) : Prop := Ext w w' ∧
  ((¬ T.toTr.Valid ∧ e = .returned (.tuple #[.int .i64 0, .int .i64 1])) ∨
   (T.toTr.Valid ∧ ∃ rows, T.toTr.Stamps rows ∧ e = .returned (.tuple #[.int .i64 (T.toTr.skipN rows), .int .i64 0])))

end Go.Proofs.YtnknkkmdbnaglaaGreat
