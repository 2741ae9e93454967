/- Plain: the longest chain to an event. Contract: lamport.Longest. Contract: lamport.Longest, at an event that exists. -/
import Derived.Test.YtnknkkmdbnaglaaGreatKg
import Derived.Test.YtnknkkmdbnaglaaGreatKa
namespace Go.Proofs.YtnknkkmdbnaglaaGreat
open Go.RowKit Go.Shelf

abbrev stOf (rows : Nat → List Int) (x : NN) : Int := (rows x.1).getD x.2 0
open Classical in
/-- the event before x in the longest chain -/
noncomputable def Tr.prv (T : Tr) (rows : Nat → List Int) (x : NN) : NN := if 0 < x.2 ∧ stOf rows (x.1, x.2 - 1) = stOf rows x - 1 then (x.1, x.2 - 1) else T.sndN x
theorem Tr.Stamps.prv {T : Tr} {rows : Nat → List Int} (h : T.Stamps rows) {x : NN} (hx : T.V x) (h1 : 1 < stOf rows x) :
    T.V (T.prv rows x) ∧ T.Dir (T.prv rows x) x ∧ stOf rows (T.prv rows x) = stOf rows x - 1 ∧ (¬ (0 < x.2 ∧ stOf rows (x.1, x.2 - 1) = stOf rows x - 1) → T.kind x.1 x.2 = 3) := by
  have he := h.eq x.1 x.2 hx.1 hx.2
  change stOf rows x = _ at he
  by_cases hc : 0 < x.2 ∧ stOf rows (x.1, x.2 - 1) = stOf rows x - 1
  · have e : T.prv rows x = (x.1, x.2 - 1) := by unfold Tr.prv; rw [if_pos hc]
    rw [e]
    exact ⟨⟨hx.1, Nat.lt_of_le_of_lt (Nat.sub_le _ _) hx.2⟩, .inl ⟨rfl, by show x.2 = x.2 - 1 + 1; omega⟩, hc.2, fun h => absurd hc h⟩
  · have e : T.prv rows x = T.sndN x := by unfold Tr.prv; rw [if_neg hc]
    rw [e]
    have k3 : T.kind x.1 x.2 = 3 := by
      refine Classical.byContradiction fun k3 => ?_
      rw [if_neg k3] at he
      by_cases h0 : x.2 = 0
      · rw [if_pos h0] at he; omega
      · rw [if_neg h0] at he
        have : stOf rows (x.1, x.2 - 1) = (rows x.1).getD (x.2 - 1) 0 := rfl
        exact hc ⟨by omega, by omega⟩
    refine ⟨Tr.sndN_V hx, .inr ⟨k3, rfl⟩, ?_, fun _ => k3⟩
    rw [if_pos k3] at he
    have e2 : stOf rows (T.sndN x) = (rows (T.sndN (x.1, x.2)).1).getD (T.sndN (x.1, x.2)).2 0 := rfl
    by_cases h0 : x.2 = 0
    · rw [if_pos h0] at he; omega
    · rw [if_neg h0] at he
      have e3 : stOf rows (x.1, x.2 - 1) = (rows x.1).getD (x.2 - 1) 0 := rfl
      have : ¬ (rows x.1).getD (x.2 - 1) 0 = stOf rows x - 1 := fun h => hc ⟨by omega, by omega⟩
      omega
/-- j events back -/
noncomputable def Tr.prvN (T : Tr) (rows : Nat → List Int) (x : NN) : Nat → NN
  | 0 => x
  | j + 1 => T.prv rows (T.prvN rows x j)
theorem Tr.Stamps.prvN {T : Tr} {rows : Nat → List Int} (h : T.Stamps rows) {x : NN} (hx : T.V x) : ∀ j : Nat, (j : Int) < stOf rows x → T.V (T.prvN rows x j) ∧ stOf rows (T.prvN rows x j) = stOf rows x - j
  | 0, _ => ⟨hx, by simp [Tr.prvN]⟩
  | j + 1, hj => by
    obtain ⟨h1, h2⟩ := h.prvN hx j (by omega)
    obtain ⟨h3, _, h4, _⟩ := h.prv h1 (by omega)
    exact ⟨h3, by show stOf rows (T.prv rows _) = _; rw [h4, h2]; omega⟩
/-- x and the j events before it in the chain -/
noncomputable def Tr.lng (T : Tr) (rows : Nat → List Int) (x : NN) (j : Nat) : List (Int × Int) := (List.range (j + 1)).map fun i => evI (T.prvN rows x i)
theorem Tr.lng_zero (T : Tr) (rows : Nat → List Int) (x : NN) : T.lng rows x 0 = [evI x] := rfl
theorem Tr.lng_succ (T : Tr) (rows : Nat → List Int) (x : NN) (j : Nat) : T.lng rows x (j + 1) = T.lng rows x j ++ [evI (T.prvN rows x (j + 1))] := by
  unfold Tr.lng; rw [List.range_succ (n := j + 1), List.map_append]; rfl
theorem Tr.lng_len (T : Tr) (rows : Nat → List Int) (x : NN) (j : Nat) : (T.lng rows x j).length = j + 1 := by simp [Tr.lng]
theorem Tr.lng_get (T : Tr) (rows : Nat → List Int) (x : NN) (j i : Nat) (h : i < (T.lng rows x j).length) : (T.lng rows x j)[i] = evI (T.prvN rows x i) := by simp [Tr.lng]

theorem StS.same {base bS n : Nat} {rows : Nat → List Int} {vs : Nat → Value} {w w' : World} (h : StS base bS n rows vs w) (h0 : 0 < n) (hb : base ≤ bS) (hs : ∀ g, base ≤ g → g < w.heap.size → w'.heap[g]? = w.heap[g]?) : StS base bS n rows vs w' := by
  have hbS := hs bS hb (cell_lt (h.cell 0 h0))
  exact ⟨h.hn, fun k hk => (World.cell?_of_block (w := w) (a := ⟨bS, k, none⟩) hbS).trans (h.cell k hk), fun k => (World.frozen?_of_block (w := w) (a := ⟨bS, k, none⟩) hbS).trans (h.froz k),
    fun k hk => (h.own k hk).same fun g e => hs g ((h.own k hk).block g e) ((h.own k hk).lt g e), h.apart, h.off, h.len⟩

end Go.Proofs.YtnknkkmdbnaglaaGreat

namespace Go.Proofs.YtnknkkmdbnaglaaGreat
open Go.RowKit Go.Shelf

/-- Longest's answer -/
def LongPost (T : TM) (p i : Int) (w : World) (e : Ending) (w' : World) : Prop := Ext w w' ∧
  ((¬ T.toTr.Valid ∧ e = .returned (.tuple #[.slice none 0 0, .int .i64 1])) ∨
   (T.toTr.Valid ∧ ¬ (0 ≤ p ∧ p < T.n ∧ 1 ≤ i ∧ i ≤ T.en p.toNat) ∧ e = .returned (.tuple #[.slice none 0 0, .int .i64 2])) ∨
   (T.toTr.Valid ∧ ∃ (rows : Nat → List Int) (x : NN) (g cap : Nat), T.toTr.Stamps rows ∧ T.toTr.V x ∧ p = x.1 ∧ i = x.2 + 1 ∧ w.heap.size ≤ g ∧
     e = .returned (.tuple #[.slice (some ⟨g, 0, none⟩) (stOf rows x).toNat cap, .int .i64 0]) ∧ EvRow w' g (stOf rows x).toNat (fun k => evI (T.toTr.prvN rows x ((stOf rows x).toNat - 1 - k)))))



/-- all that lay in w2, but for block b, lies as it lay -/
structure KeepBut (w2 wr : World) (b : Nat) : Prop where
  size : w2.heap.size ≤ wr.heap.size
  block : ∀ g, g < w2.heap.size → g ≠ b → wr.heap[g]? = w2.heap[g]?
theorem KeepBut.refl (w : World) (b : Nat) : KeepBut w w b := ⟨Nat.le_refl _, fun _ _ _ => rfl⟩
theorem KeepBut.set {w2 wr : World} {b : Nat} (h : KeepBut w2 wr b) (i : Nat) (v : Value) : KeepBut w2 (wr.setCell ⟨b, i, none⟩ v) b :=
  ⟨by rw [World.size_setCell]; exact h.size, fun g h1 h2 => by rw [Below.heap_setCell _ _ _ _ h2]; exact h.block g h1 h2⟩
theorem KeepBut.below {w2 wr w' : World} {b : Nat} (h : KeepBut w2 wr b) (x : Below w2.heap.size wr w') : KeepBut w2 w' b :=
  ⟨Nat.le_trans h.size x.size, fun g h1 h2 => by rw [x.block g h1]; exact h.block g h1 h2⟩
theorem KeepBut.sts {w2 wr : World} {b base n : Nat} {rows : Nat → List Int} {vs : Nat → Value} (h : KeepBut w2 wr b) (hs : StS base base n rows vs w2) (h0 : 0 < n) (hb : b < base) : StS base base n rows vs wr :=
  hs.same h0 (Nat.le_refl _) fun g h1 h2 => h.block g h2 (by omega)
/-- the chain so far: j events before x -/
structure LngI (T : TM) (rows : Nat → List Int) (x : NN) (w w2 : World) (j : Nat) (v : Value) (wr : World) : Prop where
  own : EvOwn wr w2.heap.size v (T.toTr.lng rows x j)
  h0 : Hold wr w.heap.size #[.slice (some ⟨T.b, T.off, none⟩) T.n T.cap]
  h1 : Hold wr (w.heap.size + 1) #[.int .i64 (T.toTr.prvN rows x j).1, .int .i64 ((T.toTr.prvN rows x j).2 + 1)]
  bl : Ext w wr
  kp : KeepBut w2 wr (w.heap.size + 1)
theorem LngI.ext {T : TM} {rows : Nat → List Int} {x : NN} {w w2 wr w' : World} {j : Nat} {v : Value} (h : LngI T rows x w w2 j v wr) (y : Ext wr w') : LngI T rows x w w2 j v w' :=
  ⟨h.own.kept y, h.h0.ext y, h.h1.ext y, h.bl.trans y, h.kp.below (Below.mono y h.kp.size)⟩
/-- the box of the event gets the event before, and it is appended -/
theorem LngI.step {T : TM} {rows : Nat → List Int} {x : NN} {w w2 w5 w6 : World} {j : Nat} {v' : Value} (hb2 : w.heap.size + 1 < w2.heap.size)
    (e5 : Ext w w5) (k5 : KeepBut w2 w5 (w.heap.size + 1))
    (b5 : Hold w5 (w.heap.size + 1) #[.int .i64 (T.toTr.prvN rows x (j + 1)).1, .int .i64 ((T.toTr.prvN rows x (j + 1)).2 + 1)])
    (h05 : Hold w5 w.heap.size #[.slice (some ⟨T.b, T.off, none⟩) T.n T.cap])
    (o6 : w6.ownsRow w2.heap.size 110 2 v' (j + 1 + 1) (evCells (T.toTr.lng rows x j) ++ [.int .i64 (T.toTr.prvN rows x (j + 1)).1, .int .i64 ((T.toTr.prvN rows x (j + 1)).2 + 1)]))
    (x6 : Below w2.heap.size w5 w6) : LngI T rows x w w2 (j + 1) v' w6 := by
  refine ⟨?_, h05.below x6 (by omega), b5.below x6 (by omega), ?_, k5.below x6⟩
  · rw [Tr.lng_succ]
    refine EvOwn.snoc ?_
    rw [Tr.lng_len]; exact o6
  · exact Below.trans e5 (Below.mono x6 (by omega))
/-- block b alone has changed -/
structure Only (b : Nat) (w w' : World) : Prop where
  os : w'.os = w.os
  tape : w'.tape = w.tape
  output : w'.output = w.output
  size : w'.heap.size = w.heap.size
  block : ∀ g, g ≠ b → w'.heap[g]? = w.heap[g]?
theorem Only.set (b : Nat) (w : World) (i : Nat) (v : Value) : Only b w (w.setCell ⟨b, i, none⟩ v) := ⟨rfl, rfl, rfl, World.size_setCell _ _ _, fun _ h => Below.heap_setCell _ _ _ _ h⟩
theorem Only.trans {b : Nat} {w w' w'' : World} (h : Only b w w') (k : Only b w' w'') : Only b w w'' :=
  ⟨k.os.trans h.os, k.tape.trans h.tape, k.output.trans h.output, k.size.trans h.size, fun g hg => (k.block g hg).trans (h.block g hg)⟩
theorem Only.below {b B : Nat} {w w' : World} (h : Only b w w') (hb : B ≤ b) : Below B w w' := ⟨h.os, h.tape, h.output, Nat.le_of_eq h.size.symm, fun g hg => h.block g (by omega)⟩
theorem Only.hold {b g : Nat} {w w' : World} {c : Array Value} (h : Only b w w') (k : Hold w g c) (hg : g ≠ b) : Hold w' g c := by
  obtain ⟨t, k⟩ := k; exact ⟨t, (h.block g hg).trans k⟩
theorem LngI.moved {T : TM} {rows : Nat → List Int} {x : NN} {w w2 wr w4 w5 : World} {j : Nat} {v : Value} (h : LngI T rows x w w2 j v wr) (hb2 : w.heap.size + 1 < w2.heap.size) (x4 : Ext wr w4) (o : Only (w.heap.size + 1) w4 w5) :
    EvOwn w5 w2.heap.size v (T.toTr.lng rows x j) ∧ Ext w w5 ∧ KeepBut w2 w5 (w.heap.size + 1) ∧ Hold w5 w.heap.size #[.slice (some ⟨T.b, T.off, none⟩) T.n T.cap] := by
  have h4 := h.ext x4
  refine ⟨h4.own.same fun g e => o.block g (by have := h4.own.block g e; omega), Below.trans h4.bl (o.below (by omega)), ⟨by rw [o.size]; exact h4.kp.size, fun g h1 h2 => (o.block g h2).trans (h4.kp.block g h1 h2)⟩, o.hold h4.h0 (by omega)⟩
/-- a slice of events of the call's own, taken apart -/
theorem EvOwn.row {w : World} {base : Nat} {v : Value} {l : List (Int × Int)} (h : EvOwn w base v l) (h0 : 0 < l.length) : ∃ g cap, v = .slice (some ⟨g, 0, none⟩) l.length cap ∧ base ≤ g ∧ EvRow w g l.length (fun k => l.getD k (0, 0)) := by
  obtain ⟨h1, ⟨hv, hn⟩ | ⟨g, cap, cur, hv, hg, hh, hc, hm, hs, ht⟩⟩ := h
  · omega
  · have hb := Box.of hh
    have hget : ∀ j, j < l.length * 2 → cur[j]? = (evCells l)[j]? := by
      intro j hj
      rw [← ht, List.getElem?_take_of_lt hj]; simp
    refine ⟨g, cap, hv, hg, fun k hk => ?_, fun k hk => ?_, fun o => hb.frozen w (Ext.refl _) o⟩
    · rw [hb.cell w (Ext.refl _), hget _ (by omega), evCells_get0 l k hk, List.getD_eq_getElem?_getD, List.getElem?_eq_getElem hk]; rfl
    · rw [hb.cell w (Ext.refl _), hget _ (by omega), evCells_get1 l k hk, List.getD_eq_getElem?_getD, List.getElem?_eq_getElem hk]; rfl

end Go.Proofs.YtnknkkmdbnaglaaGreat

namespace Go.Proofs.YtnknkkmdbnaglaaGreat
open Go.RowKit Go.Shelf

theorem boxed1t {w : World} {c : Array Value} {t : TypeId} {G : World → Prop}
    (h : ∀ w2, Ext w w2 → w2.heap.size = w.heap.size + 1 → w2.heap[w.heap.size]? = some (.cells c t (0, 0)) → G w2) : G (w.alloc (.cells c t)) :=
  h _ (Ext.alloc _ _) (by simp) (by show (w.heap.push _)[w.heap.size]? = _; simp)
theorem evOwn_one {w : World} {base g : Nat} {x y : Int} (h : w.heap[g]? = some (.cells #[.int .i64 x, .int .i64 y] 110 (0, 0))) (hb : base ≤ g) : EvOwn w base (.slice (some ⟨g, 0, none⟩) 1 1) [(x, y)] :=
  ⟨rfl, .inr ⟨g, 1, _, rfl, hb, h, Nat.le_refl _, by unfold maxLen; omega, rfl, rfl⟩⟩
theorem Tr.lng_getD (T : Tr) (rows : Nat → List Int) (x : NN) (j i : Nat) (h : i < j + 1) : (T.lng rows x j).getD i (0, 0) = evI (T.prvN rows x i) := by
  have h' : i < (T.lng rows x j).length := by rw [Tr.lng_len]; exact h
  rw [List.getD_eq_getElem?_getD, List.getElem?_eq_getElem h', Option.getD_some, Tr.lng_get]
theorem setd2 {w : World} {p q : Addr} {v u : Value} {G : World → Prop} (h : ∀ w5, w5 = (w.setCell p v).setCell q u → G w5) : G ((w.setCell p v).setCell q u) := h _ rfl
theorem setd {w : World} {n : Nat} {p : Addr} {v : Value} {G : World → Prop} (h : ∀ w5, w5 = (w.drewN n).setCell p v → G w5) : G ((w.drewN n).setCell p v) := h _ rfl

end Go.Proofs.YtnknkkmdbnaglaaGreat
