/- Contract: lamport.Longest. -/
import Derived.Test.YtecgigeeolindaaLngP
namespace Go.Proofs.Ytecgigeeolindaa
open Go.RowKit Go.Shelf

/-- Longest's answer -/
def LongPost (T : TM) (p i : Int) (w : World) (e : Ending) (w' : World) : Prop := Ext w w' ∧
  ((¬ T.toTr.Valid ∧ e = .returned (.tuple #[.slice none 0 0, .int .i64 1])) ∨
   (T.toTr.Valid ∧ ¬ (0 ≤ p ∧ p < T.n ∧ 1 ≤ i ∧ i ≤ T.en p.toNat) ∧ e = .returned (.tuple #[.slice none 0 0, .int .i64 2])) ∨
   (T.toTr.Valid ∧ ∃ (rows : Nat → List Int) (x : NN) (g cap : Nat), T.toTr.Stamps rows ∧ T.toTr.V x ∧ p = x.1 ∧ i = x.2 + 1 ∧ w.heap.size ≤ g ∧
     e = .returned (.tuple #[.slice (some ⟨g, 0, none⟩) (stOf rows x).toNat cap, .int .i64 0]) ∧ EvRow w' g (stOf rows x).toNat (fun k => evI (T.toTr.prvN rows x ((stOf rows x).toNat - 1 - k)))))
set_option maxHeartbeats 1000000 in
theorem longest_no (w : World) (T : TM) (hT : T.At w) (hV : ¬ T.toTr.Valid) (p i : Int) :
    Calls Try.prog 15 #[T.val, .agg #[.int .i64 p, .int .i64 i]] w (LongPost T p i w) := by
  go_enter Try.func15, Try.ntmps15
  go_upto_region 1 with fail
  refine boxed2 (w := w) (G := fun x => Code.wp _ _ _ _ x) ?_
  intro w1 hx1 hs1 ⟨l0, c0, f0, k0⟩ ⟨l1, c1, f1, k1⟩
  have hx11 : Ext w1 w1 := Ext.refl _
  have hF : Calls Try.prog 14 #[T.val] w1 fun e w' => e = .returned (.tuple #[.slice none 0 0, .int .i64 1]) ∧ Ext w1 w' :=
    (stamps_no w1 T (hT.ext hx1) hV).mono fun e w' ⟨hx, h⟩ => by
      rcases h with ⟨_, h⟩ | ⟨h, _⟩
      · exact ⟨h, hx⟩
      · exact absurd h hV
  clear hs1 hT
  go_wp2_with (go_at_call 14; refine hF.mono ?_; rintro e w2 ⟨rfl, hx2⟩)
  go_ret2
  exact ⟨hx1.trans hx2, .inl ⟨hV, rfl⟩⟩

set_option maxHeartbeats 2000000 in
theorem longest_range (w : World) (T : TM) (hT : T.At w) (hV : T.toTr.Valid) (hE : ∀ k, k < T.n → T.en k ≤ 1000000) (p i : Int) (hr : ¬ (0 ≤ p ∧ p < T.n ∧ 1 ≤ i ∧ i ≤ T.en p.toNat)) :
    Calls Try.prog 15 #[T.val, .agg #[.int .i64 p, .int .i64 i]] w (LongPost T p i w) := by
  have hn1 := hV.n1
  have hn8 := hV.n8
  have pa := hT.P.pa (by omega)
  have pb := hT.P.pb (by omega)
  have p2 := hT.P.p2
  have hen := hT.E.he
  go_enter Try.func15, Try.ntmps15
  go_upto_region 1 with fail
  refine boxed2 (w := w) (G := fun x => Code.wp _ _ _ _ x) ?_
  intro w1 hx1 hs1 ⟨l0, c0, f0, k0⟩ ⟨l1, c1, f1, k1⟩
  have hx11 : Ext w1 w1 := Ext.refl _
  have hF : Calls Try.prog 14 #[T.val] w1 fun e w' => ∃ base cap rows vs, e = .returned (.tuple #[.slice (some ⟨base, 0, none⟩) T.n cap, .int .i64 0]) ∧ w1.heap.size ≤ base ∧ StS base base T.n rows vs w' ∧ T.toTr.Stamps rows ∧ Ext w1 w' :=
    (stamps_yes w1 T (hT.ext hx1) hV hE).mono fun e w' ⟨hx, h⟩ => by
      rcases h with ⟨h, _⟩ | ⟨_, base, cap, rows, vs, h1, h2, h3, h4⟩
      · exact absurd hV h
      · exact ⟨base, cap, rows, vs, h2, h1, h3, h4, hx⟩
  simp only [TM.val, pa] at hF
  have HT := Lib.hid hT
  have HV := Lib.hid hV
  have HR := Lib.hid hr
  clear hs1 hT hV hE hr
  go_upto_region 4 with (go_at_call 14; refine hF.mono ?_; rintro e w2 ⟨base, cap, rows, vs, rfl, hb2, hs2, hst2, hx2⟩)
  clear hF hs2 hst2 hb2
  have hx12 := hx1.trans hx2
  by_cases h1 : p < 0
  · have d1 : decide (p < 0) = true := decide_eq_true h1
    go_quiet (fail)
    go_wp2_with fail
    go_ret2
    exact ⟨hx12.drewN _, .inr (.inl ⟨HV.out, HR.out, rfl⟩)⟩
  · have d1 : decide (p < 0) = false := decide_eq_false h1
    by_cases h2 : (T.n : Int) ≤ p
    · have d2 : decide ((T.n : Int) ≤ p) = true := decide_eq_true h2
      go_quiet (fail)
      go_wp2_with fail
      go_ret2
      exact ⟨hx12.drewN _, .inr (.inl ⟨HV.out, HR.out, rfl⟩)⟩
    · have d2 : decide ((T.n : Int) ≤ p) = false := decide_eq_false h2
      by_cases h3 : i < 1
      · have d3 : decide (i < 1) = true := decide_eq_true h3
        go_quiet (fail)
        go_wp2_with fail
        go_ret2
        exact ⟨hx12.drewN _, .inr (.inl ⟨HV.out, HR.out, rfl⟩)⟩
      · have d3 : decide (i < 1) = false := decide_eq_false h3
        obtain ⟨k, rfl⟩ := Int.eq_ofNat_of_zero_le (Int.not_lt.1 h1)
        have hk : k < T.n := by omega
        have hek := hen k hk
        have h4 : (T.en k : Int) < i := by
          refine Int.not_le.1 fun h => HR.out ⟨by omega, by omega, by omega, by simpa using h⟩
        have d4 : decide ((T.en k : Int) < i) = true := decide_eq_true h4
        go_quiet (fail)
        go_wp2_with fail
        go_ret2
        exact ⟨hx12.drewN _, .inr (.inl ⟨HV.out, HR.out, rfl⟩)⟩


/-- all that lay in w2, but for block b, lies as it lay -/
structure KeepBut (w2 wr : World) (b : Nat) : Prop where
  size : w2.heap.size ≤ wr.heap.size
  block : ∀ g, g < w2.heap.size → g ≠ b → wr.heap[g]? = w2.heap[g]?
theorem KeepBut.refl (w : World) (b : Nat) : KeepBut w w b := ⟨Nat.le_refl _, fun _ _ _ => rfl⟩
theorem KeepBut.set {w2 wr : World} {b : Nat} (h : KeepBut w2 wr b) (i : Nat) (v : Value) : KeepBut w2 (wr.setCell ⟨b, i, none⟩ v) b :=
  ⟨by rw [World.size_setCell]; exact h.size, fun g h1 h2 => by rw [Below.heap_setCell _ _ _ _ h2]; exact h.block g h1 h2⟩
theorem KeepBut.below {w2 wr w' : World} {b : Nat} (h : KeepBut w2 wr b) (x : Below w2.heap.size wr w') : KeepBut w2 w' b :=
  ⟨Nat.le_trans h.size x.size, fun g h1 h2 => by rw [x.block g h1]; exact h.block g h1 h2⟩
theorem KeepBut.sts {w2 wr : World} {b base n : Nat} {rows : Nat → List Int} {vs : Nat → Value} (h : KeepBut w2 wr b) (hs : StS base base n rows vs w2) (h0 : 0 < n) (hb : b < base) : StS base base n rows vs wr :=
  hs.same h0 (Nat.le_refl _) fun g h1 h2 => h.block g h2 (by omega)
/-- the chain so far: j events before x -/
structure LngI (T : TM) (rows : Nat → List Int) (x : NN) (w w2 : World) (j : Nat) (v : Value) (wr : World) : Prop where
  own : EvOwn wr w2.heap.size v (T.toTr.lng rows x j)
  h0 : Hold wr w.heap.size #[.slice (some ⟨T.b, T.off, none⟩) T.n T.cap]
  h1 : Hold wr (w.heap.size + 1) #[.int .i64 (T.toTr.prvN rows x j).1, .int .i64 ((T.toTr.prvN rows x j).2 + 1)]
  bl : Ext w wr
  kp : KeepBut w2 wr (w.heap.size + 1)
theorem LngI.ext {T : TM} {rows : Nat → List Int} {x : NN} {w w2 wr w' : World} {j : Nat} {v : Value} (h : LngI T rows x w w2 j v wr) (y : Ext wr w') : LngI T rows x w w2 j v w' :=
  ⟨h.own.kept y, h.h0.ext y, h.h1.ext y, h.bl.trans y, h.kp.below (Below.mono y h.kp.size)⟩
/-- the box of the event gets the event before, and it is appended -/
theorem LngI.step {T : TM} {rows : Nat → List Int} {x : NN} {w w2 w5 w6 : World} {j : Nat} {v' : Value} (hb2 : w.heap.size + 1 < w2.heap.size)
    (e5 : Ext w w5) (k5 : KeepBut w2 w5 (w.heap.size + 1))
    (b5 : Hold w5 (w.heap.size + 1) #[.int .i64 (T.toTr.prvN rows x (j + 1)).1, .int .i64 ((T.toTr.prvN rows x (j + 1)).2 + 1)])
    (h05 : Hold w5 w.heap.size #[.slice (some ⟨T.b, T.off, none⟩) T.n T.cap])
    (o6 : w6.ownsRow w2.heap.size 31 2 v' (j + 1 + 1) (evCells (T.toTr.lng rows x j) ++ [.int .i64 (T.toTr.prvN rows x (j + 1)).1, .int .i64 ((T.toTr.prvN rows x (j + 1)).2 + 1)]))
    (x6 : Below w2.heap.size w5 w6) : LngI T rows x w w2 (j + 1) v' w6 := by
  refine ⟨?_, h05.below x6 (by omega), b5.below x6 (by omega), ?_, k5.below x6⟩
  · rw [Tr.lng_succ]
    refine EvOwn.snoc ?_
    rw [Tr.lng_len]; exact o6
  · exact Below.trans e5 (Below.mono x6 (by omega))
/-- block b alone has changed -/
structure Only (b : Nat) (w w' : World) : Prop where
  os : w'.os = w.os
  tape : w'.tape = w.tape
  output : w'.output = w.output
  size : w'.heap.size = w.heap.size
  block : ∀ g, g ≠ b → w'.heap[g]? = w.heap[g]?
theorem Only.set (b : Nat) (w : World) (i : Nat) (v : Value) : Only b w (w.setCell ⟨b, i, none⟩ v) := ⟨rfl, rfl, rfl, World.size_setCell _ _ _, fun _ h => Below.heap_setCell _ _ _ _ h⟩
theorem Only.trans {b : Nat} {w w' w'' : World} (h : Only b w w') (k : Only b w' w'') : Only b w w'' :=
  ⟨k.os.trans h.os, k.tape.trans h.tape, k.output.trans h.output, k.size.trans h.size, fun g hg => (k.block g hg).trans (h.block g hg)⟩
theorem Only.below {b B : Nat} {w w' : World} (h : Only b w w') (hb : B ≤ b) : Below B w w' := ⟨h.os, h.tape, h.output, Nat.le_of_eq h.size.symm, fun g hg => h.block g (by omega)⟩
theorem Only.hold {b g : Nat} {w w' : World} {c : Array Value} (h : Only b w w') (k : Hold w g c) (hg : g ≠ b) : Hold w' g c := by
  obtain ⟨t, k⟩ := k; exact ⟨t, (h.block g hg).trans k⟩
theorem LngI.moved {T : TM} {rows : Nat → List Int} {x : NN} {w w2 wr w4 w5 : World} {j : Nat} {v : Value} (h : LngI T rows x w w2 j v wr) (hb2 : w.heap.size + 1 < w2.heap.size) (x4 : Ext wr w4) (o : Only (w.heap.size + 1) w4 w5) :
    EvOwn w5 w2.heap.size v (T.toTr.lng rows x j) ∧ Ext w w5 ∧ KeepBut w2 w5 (w.heap.size + 1) ∧ Hold w5 w.heap.size #[.slice (some ⟨T.b, T.off, none⟩) T.n T.cap] := by
  have h4 := h.ext x4
  refine ⟨h4.own.same fun g e => o.block g (by have := h4.own.block g e; omega), Below.trans h4.bl (o.below (by omega)), ⟨by rw [o.size]; exact h4.kp.size, fun g h1 h2 => (o.block g h2).trans (h4.kp.block g h1 h2)⟩, o.hold h4.h0 (by omega)⟩
/-- a slice of events of the call's own, taken apart -/
theorem EvOwn.row {w : World} {base : Nat} {v : Value} {l : List (Int × Int)} (h : EvOwn w base v l) (h0 : 0 < l.length) : ∃ g cap, v = .slice (some ⟨g, 0, none⟩) l.length cap ∧ base ≤ g ∧ EvRow w g l.length (fun k => l.getD k (0, 0)) := by
  obtain ⟨h1, ⟨hv, hn⟩ | ⟨g, cap, cur, hv, hg, hh, hc, hm, hs, ht⟩⟩ := h
  · omega
  · have hb := Box.of hh
    have hget : ∀ j, j < l.length * 2 → cur[j]? = (evCells l)[j]? := by
      intro j hj
      rw [← ht, List.getElem?_take_of_lt hj]; simp
    refine ⟨g, cap, hv, hg, fun k hk => ?_, fun k hk => ?_, fun o => hb.frozen w (Ext.refl _) o⟩
    · rw [hb.cell w (Ext.refl _), hget _ (by omega), evCells_get0 l k hk, List.getD_eq_getElem?_getD, List.getElem?_eq_getElem hk]; rfl
    · rw [hb.cell w (Ext.refl _), hget _ (by omega), evCells_get1 l k hk, List.getD_eq_getElem?_getD, List.getElem?_eq_getElem hk]; rfl

end Go.Proofs.Ytecgigeeolindaa
