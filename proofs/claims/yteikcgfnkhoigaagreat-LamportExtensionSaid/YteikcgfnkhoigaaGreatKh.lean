/- Plain: the longest chain to an event. Contract: lamport.Longest. Contract: lamport.Longest, at an event that exists. -/
import Derived.Test.YteikcgfnkhoigaaGreatKg
import Derived.Test.YteikcgfnkhoigaaGreatKa
namespace Go.Proofs.YteikcgfnkhoigaaGreat
open Go.RowKit Go.Shelf

abbrev stOf (rows : Nat → List Int) (x : NN) : Int := (rows x.1).getD x.2 0
open Classical in
/-- the event before x in the longest chain -/
noncomputable def Tr.prv (T : Tr) (rows : Nat → List Int) (x : NN) : NN := if 0 < x.2 ∧ stOf rows (x.1, x.2 - 1) = stOf rows x - 1 then (x.1, x.2 - 1) else T.sndN x
theorem Tr.Stamps.prv {T : Tr} {rows : Nat → List Int} (h : T.Stamps rows) {x : NN} (hx : T.V x) (h1 : 1 < stOf rows x) :
    T.V (T.prv rows x) ∧ T.Dir (T.prv rows x) x ∧ stOf rows (T.prv rows x) = stOf rows x - 1 ∧ (¬ (0 < x.2 ∧ stOf rows (x.1, x.2 - 1) = stOf rows x - 1) → T.kind x.1 x.2 = 3) := by
  have he := h.eq x.1 x.2 hx.1 hx.2
  change stOf rows x = _ at he
  by_cases hc : 0 < x.2 ∧ stOf rows (x.1, x.2 - 1) = stOf rows x - 1
  · have e : T.prv rows x = (x.1, x.2 - 1) := by unfold Tr.prv; rw [if_pos hc]
    rw [e]
    exact ⟨⟨hx.1, Nat.lt_of_le_of_lt (Nat.sub_le _ _) hx.2⟩, .inl ⟨rfl, by show x.2 = x.2 - 1 + 1; omega⟩, hc.2, fun h => absurd hc h⟩
  · have e : T.prv rows x = T.sndN x := by unfold Tr.prv; rw [if_neg hc]
    rw [e]
    have k3 : T.kind x.1 x.2 = 3 := by
      refine Classical.byContradiction fun k3 => ?_
      rw [if_neg k3] at he
      by_cases h0 : x.2 = 0
      · rw [if_pos h0] at he; omega
      · rw [if_neg h0] at he
        have : stOf rows (x.1, x.2 - 1) = (rows x.1).getD (x.2 - 1) 0 := rfl
        exact hc ⟨by omega, by omega⟩
    refine ⟨Tr.sndN_V hx, .inr ⟨k3, rfl⟩, ?_, fun _ => k3⟩
    rw [if_pos k3] at he
    have e2 : stOf rows (T.sndN x) = (rows (T.sndN (x.1, x.2)).1).getD (T.sndN (x.1, x.2)).2 0 := rfl
    by_cases h0 : x.2 = 0
    · rw [if_pos h0] at he; omega
    · rw [if_neg h0] at he
      have e3 : stOf rows (x.1, x.2 - 1) = (rows x.1).getD (x.2 - 1) 0 := rfl
      have : ¬ (rows x.1).getD (x.2 - 1) 0 = stOf rows x - 1 := fun h => hc ⟨by omega, by omega⟩
      omega
/-- j events back -/
noncomputable def Tr.prvN (T : Tr) (rows : Nat → List Int) (x : NN) : Nat → NN
  | 0 => x
  | j + 1 => T.prv rows (T.prvN rows x j)
theorem Tr.Stamps.prvN {T : Tr} {rows : Nat → List Int} (h : T.Stamps rows) {x : NN} (hx : T.V x) : ∀ j : Nat, (j : Int) < stOf rows x → T.V (T.prvN rows x j) ∧ stOf rows (T.prvN rows x j) = stOf rows x - j
  | 0, _ => ⟨hx, by simp [Tr.prvN]⟩
  | j + 1, hj => by
    obtain ⟨h1, h2⟩ := h.prvN hx j (by omega)
    obtain ⟨h3, _, h4, _⟩ := h.prv h1 (by omega)
    exact ⟨h3, by show stOf rows (T.prv rows _) = _; rw [h4, h2]; omega⟩
/-- x and the j events before it in the chain -/
noncomputable def Tr.lng (T : Tr) (rows : Nat → List Int) (x : NN) (j : Nat) : List (Int × Int) := (List.range (j + 1)).map fun i => evI (T.prvN rows x i)
theorem Tr.lng_zero (T : Tr) (rows : Nat → List Int) (x : NN) : T.lng rows x 0 = [evI x] := rfl
theorem Tr.lng_succ (T : Tr) (rows : Nat → List Int) (x : NN) (j : Nat) : T.lng rows x (j + 1) = T.lng rows x j ++ [evI (T.prvN rows x (j + 1))] := by
  unfold Tr.lng; rw [List.range_succ (n := j + 1), List.map_append]; rfl
theorem Tr.lng_len (T : Tr) (rows : Nat → List Int) (x : NN) (j : Nat) : (T.lng rows x j).length = j + 1 := by simp [Tr.lng]
theorem Tr.lng_get (T : Tr) (rows : Nat → List Int) (x : NN) (j i : Nat) (h : i < (T.lng rows x j).length) : (T.lng rows x j)[i] = evI (T.prvN rows x i) := by simp [Tr.lng]

theorem StS.same {base bS n : Nat} {rows : Nat → List Int} {vs : Nat → Value} {w w' : World} (h : StS base bS n rows vs w) (h0 : 0 < n) (hb : base ≤ bS) (hs : ∀ g, base ≤ g → g < w.heap.size → w'.heap[g]? = w.heap[g]?) : StS base bS n rows vs w' := by
  have hbS := hs bS hb (cell_lt (h.cell 0 h0))
  exact ⟨h.hn, fun k hk => (World.cell?_of_block (w := w) (a := ⟨bS, k, none⟩) hbS).trans (h.cell k hk), fun k => (World.frozen?_of_block (w := w) (a := ⟨bS, k, none⟩) hbS).trans (h.froz k),
    fun k hk => (h.own k hk).same fun g e => hs g ((h.own k hk).block g e) ((h.own k hk).lt g e), h.apart, h.off, h.len⟩

end Go.Proofs.YteikcgfnkhoigaaGreat

namespace Go.Proofs.YteikcgfnkhoigaaGreat
open Go.RowKit Go.Shelf

/-- Longest's answer -/
def LongPost (T : TM) (p i : Int) (w : World) (e : Ending) (w' : World) : Prop := Ext w w' ∧
  ((¬ T.toTr.Valid ∧ e = .returned (.tuple #[.slice none 0 0, .int .i64 1])) ∨
   (T.toTr.Valid ∧ ¬ (0 ≤ p ∧ p < T.n ∧ 1 ≤ i ∧ i ≤ T.en p.toNat) ∧ e = .returned (.tuple #[.slice none 0 0, .int .i64 2])) ∨
   (T.toTr.Valid ∧ ∃ (rows : Nat → List Int) (x : NN) (g cap : Nat), T.toTr.Stamps rows ∧ T.toTr.V x ∧ p = x.1 ∧ i = x.2 + 1 ∧ w.heap.size ≤ g ∧
     e = .returned (.tuple #[.slice (some ⟨g, 0, none⟩) (stOf rows x).toNat cap, .int .i64 0]) ∧ EvRow w' g (stOf rows x).toNat (fun k => evI (T.toTr.prvN rows x ((stOf rows x).toNat - 1 - k)))))
set_option maxHeartbeats 1000000 in
theorem longest_no (w : World) (T : TM) (hT : T.At w) (hV : ¬ T.toTr.Valid) (p i : Int) :
    Calls Tryz.prog 36 #[T.val, .agg #[.int .i64 p, .int .i64 i]] w (LongPost T p i w) := by
  go_enter Tryz.func36, Tryz.ntmps36
  go_upto_region 1 with fail
  refine boxed2 (w := w) (G := fun x => Code.wp _ _ _ _ x) ?_
  intro w1 hx1 hs1 ⟨l0, c0, f0, k0⟩ ⟨l1, c1, f1, k1⟩
  have hx11 : Ext w1 w1 := Ext.refl _
  have hF : Calls Tryz.prog 45 #[T.val] w1 fun e w' => e = .returned (.tuple #[.slice none 0 0, .int .i64 1]) ∧ Ext w1 w' :=
    (stamps_no w1 T (hT.ext hx1) hV).mono fun e w' ⟨hx, h⟩ => by
      rcases h with ⟨_, h⟩ | ⟨h, _⟩
      · exact ⟨h, hx⟩
      · exact absurd h hV
  clear hs1 hT
  go_wp2_with (go_at_call 45; refine hF.mono ?_; rintro e w2 ⟨rfl, hx2⟩)
  go_ret2
  exact ⟨hx1.trans hx2, .inl ⟨hV, rfl⟩⟩

set_option maxHeartbeats 2000000 in
theorem longest_range (w : World) (T : TM) (hT : T.At w) (hV : T.toTr.Valid) (hE : ∀ k, k < T.n → T.en k ≤ 1000000) (p i : Int) (hr : ¬ (0 ≤ p ∧ p < T.n ∧ 1 ≤ i ∧ i ≤ T.en p.toNat)) :
    Calls Tryz.prog 36 #[T.val, .agg #[.int .i64 p, .int .i64 i]] w (LongPost T p i w) := by
  have hn1 := hV.n1
  have hn8 := hV.n8
  have pa := hT.P.pa (by omega)
  have pb := hT.P.pb (by omega)
  have p2 := hT.P.p2
  have hen := hT.E.he
  go_enter Tryz.func36, Tryz.ntmps36
  go_upto_region 1 with fail
  refine boxed2 (w := w) (G := fun x => Code.wp _ _ _ _ x) ?_
  intro w1 hx1 hs1 ⟨l0, c0, f0, k0⟩ ⟨l1, c1, f1, k1⟩
  have hx11 : Ext w1 w1 := Ext.refl _
  have hF : Calls Tryz.prog 45 #[T.val] w1 fun e w' => ∃ base cap rows vs, e = .returned (.tuple #[.slice (some ⟨base, 0, none⟩) T.n cap, .int .i64 0]) ∧ w1.heap.size ≤ base ∧ StS base base T.n rows vs w' ∧ T.toTr.Stamps rows ∧ Ext w1 w' :=
    (stamps_yes w1 T (hT.ext hx1) hV hE).mono fun e w' ⟨hx, h⟩ => by
      rcases h with ⟨h, _⟩ | ⟨_, base, cap, rows, vs, h1, h2, h3, h4⟩
      · exact absurd hV h
      · exact ⟨base, cap, rows, vs, h2, h1, h3, h4, hx⟩
  simp only [TM.val, pa] at hF
  have HT := Lib.hid hT
  have HV := Lib.hid hV
  have HR := Lib.hid hr
  clear hs1 hT hV hE hr
  go_upto_region 4 with (go_at_call 45; refine hF.mono ?_; rintro e w2 ⟨base, cap, rows, vs, rfl, hb2, hs2, hst2, hx2⟩)
  clear hF hs2 hst2 hb2
  have hx12 := hx1.trans hx2
  by_cases h1 : p < 0
  · have d1 : decide (p < 0) = true := decide_eq_true h1
    go_quiet (fail)
    go_wp2_with fail
    go_ret2
    exact ⟨hx12.drewN _, .inr (.inl ⟨HV.out, HR.out, rfl⟩)⟩
  · have d1 : decide (p < 0) = false := decide_eq_false h1
    by_cases h2 : (T.n : Int) ≤ p
    · have d2 : decide ((T.n : Int) ≤ p) = true := decide_eq_true h2
      go_quiet (fail)
      go_wp2_with fail
      go_ret2
      exact ⟨hx12.drewN _, .inr (.inl ⟨HV.out, HR.out, rfl⟩)⟩
    · have d2 : decide ((T.n : Int) ≤ p) = false := decide_eq_false h2
      by_cases h3 : i < 1
      · have d3 : decide (i < 1) = true := decide_eq_true h3
        go_quiet (fail)
        go_wp2_with fail
        go_ret2
        exact ⟨hx12.drewN _, .inr (.inl ⟨HV.out, HR.out, rfl⟩)⟩
      · have d3 : decide (i < 1) = false := decide_eq_false h3
        obtain ⟨k, rfl⟩ := Int.eq_ofNat_of_zero_le (Int.not_lt.1 h1)
        have hk : k < T.n := by omega
        have hek := hen k hk
        have h4 : (T.en k : Int) < i := by
          refine Int.not_le.1 fun h => HR.out ⟨by omega, by omega, by omega, by simpa using h⟩
        have d4 : decide ((T.en k : Int) < i) = true := decide_eq_true h4
        go_quiet (fail)
        go_wp2_with fail
        go_ret2
        exact ⟨hx12.drewN _, .inr (.inl ⟨HV.out, HR.out, rfl⟩)⟩


/-- all that lay in w2, but for block b, lies as it lay -/
structure KeepBut (w2 wr : World) (b : Nat) : Prop where
  size : w2.heap.size ≤ wr.heap.size
  block : ∀ g, g < w2.heap.size → g ≠ b → wr.heap[g]? = w2.heap[g]?
theorem KeepBut.refl (w : World) (b : Nat) : KeepBut w w b := ⟨Nat.le_refl _, fun _ _ _ => rfl⟩
theorem KeepBut.set {w2 wr : World} {b : Nat} (h : KeepBut w2 wr b) (i : Nat) (v : Value) : KeepBut w2 (wr.setCell ⟨b, i, none⟩ v) b :=
  ⟨by rw [World.size_setCell]; exact h.size, fun g h1 h2 => by rw [Below.heap_setCell _ _ _ _ h2]; exact h.block g h1 h2⟩
theorem KeepBut.below {w2 wr w' : World} {b : Nat} (h : KeepBut w2 wr b) (x : Below w2.heap.size wr w') : KeepBut w2 w' b :=
  ⟨Nat.le_trans h.size x.size, fun g h1 h2 => by rw [x.block g h1]; exact h.block g h1 h2⟩
theorem KeepBut.sts {w2 wr : World} {b base n : Nat} {rows : Nat → List Int} {vs : Nat → Value} (h : KeepBut w2 wr b) (hs : StS base base n rows vs w2) (h0 : 0 < n) (hb : b < base) : StS base base n rows vs wr :=
  hs.same h0 (Nat.le_refl _) fun g h1 h2 => h.block g h2 (by omega)
/-- the chain so far: j events before x -/
structure LngI (T : TM) (rows : Nat → List Int) (x : NN) (w w2 : World) (j : Nat) (v : Value) (wr : World) : Prop where
  own : EvOwn wr w2.heap.size v (T.toTr.lng rows x j)
  h0 : Hold wr w.heap.size #[.slice (some ⟨T.b, T.off, none⟩) T.n T.cap]
  h1 : Hold wr (w.heap.size + 1) #[.int .i64 (T.toTr.prvN rows x j).1, .int .i64 ((T.toTr.prvN rows x j).2 + 1)]
  bl : Ext w wr
  kp : KeepBut w2 wr (w.heap.size + 1)
theorem LngI.ext {T : TM} {rows : Nat → List Int} {x : NN} {w w2 wr w' : World} {j : Nat} {v : Value} (h : LngI T rows x w w2 j v wr) (y : Ext wr w') : LngI T rows x w w2 j v w' :=
  ⟨h.own.kept y, h.h0.ext y, h.h1.ext y, h.bl.trans y, h.kp.below (Below.mono y h.kp.size)⟩
/-- the box of the event gets the event before, and it is appended -/
theorem LngI.step {T : TM} {rows : Nat → List Int} {x : NN} {w w2 w5 w6 : World} {j : Nat} {v' : Value} (hb2 : w.heap.size + 1 < w2.heap.size)
    (e5 : Ext w w5) (k5 : KeepBut w2 w5 (w.heap.size + 1))
    (b5 : Hold w5 (w.heap.size + 1) #[.int .i64 (T.toTr.prvN rows x (j + 1)).1, .int .i64 ((T.toTr.prvN rows x (j + 1)).2 + 1)])
    (h05 : Hold w5 w.heap.size #[.slice (some ⟨T.b, T.off, none⟩) T.n T.cap])
    (o6 : w6.ownsRow w2.heap.size 65 2 v' (j + 1 + 1) (evCells (T.toTr.lng rows x j) ++ [.int .i64 (T.toTr.prvN rows x (j + 1)).1, .int .i64 ((T.toTr.prvN rows x (j + 1)).2 + 1)]))
    (x6 : Below w2.heap.size w5 w6) : LngI T rows x w w2 (j + 1) v' w6 := by
  refine ⟨?_, h05.below x6 (by omega), b5.below x6 (by omega), ?_, k5.below x6⟩
  · rw [Tr.lng_succ]
    refine EvOwn.snoc ?_
    rw [Tr.lng_len]; exact o6
  · exact Below.trans e5 (Below.mono x6 (by omega))
/-- block b alone has changed -/
structure Only (b : Nat) (w w' : World) : Prop where
  os : w'.os = w.os
  tape : w'.tape = w.tape
  output : w'.output = w.output
  size : w'.heap.size = w.heap.size
  block : ∀ g, g ≠ b → w'.heap[g]? = w.heap[g]?
theorem Only.set (b : Nat) (w : World) (i : Nat) (v : Value) : Only b w (w.setCell ⟨b, i, none⟩ v) := ⟨rfl, rfl, rfl, World.size_setCell _ _ _, fun _ h => Below.heap_setCell _ _ _ _ h⟩
theorem Only.trans {b : Nat} {w w' w'' : World} (h : Only b w w') (k : Only b w' w'') : Only b w w'' :=
  ⟨k.os.trans h.os, k.tape.trans h.tape, k.output.trans h.output, k.size.trans h.size, fun g hg => (k.block g hg).trans (h.block g hg)⟩
theorem Only.below {b B : Nat} {w w' : World} (h : Only b w w') (hb : B ≤ b) : Below B w w' := ⟨h.os, h.tape, h.output, Nat.le_of_eq h.size.symm, fun g hg => h.block g (by omega)⟩
theorem Only.hold {b g : Nat} {w w' : World} {c : Array Value} (h : Only b w w') (k : Hold w g c) (hg : g ≠ b) : Hold w' g c := by
  obtain ⟨t, k⟩ := k; exact ⟨t, (h.block g hg).trans k⟩
theorem LngI.moved {T : TM} {rows : Nat → List Int} {x : NN} {w w2 wr w4 w5 : World} {j : Nat} {v : Value} (h : LngI T rows x w w2 j v wr) (hb2 : w.heap.size + 1 < w2.heap.size) (x4 : Ext wr w4) (o : Only (w.heap.size + 1) w4 w5) :
    EvOwn w5 w2.heap.size v (T.toTr.lng rows x j) ∧ Ext w w5 ∧ KeepBut w2 w5 (w.heap.size + 1) ∧ Hold w5 w.heap.size #[.slice (some ⟨T.b, T.off, none⟩) T.n T.cap] := by
  have h4 := h.ext x4
  refine ⟨h4.own.same fun g e => o.block g (by have := h4.own.block g e; omega), Below.trans h4.bl (o.below (by omega)), ⟨by rw [o.size]; exact h4.kp.size, fun g h1 h2 => (o.block g h2).trans (h4.kp.block g h1 h2)⟩, o.hold h4.h0 (by omega)⟩
/-- a slice of events of the call's own, taken apart -/
theorem EvOwn.row {w : World} {base : Nat} {v : Value} {l : List (Int × Int)} (h : EvOwn w base v l) (h0 : 0 < l.length) : ∃ g cap, v = .slice (some ⟨g, 0, none⟩) l.length cap ∧ base ≤ g ∧ EvRow w g l.length (fun k => l.getD k (0, 0)) := by
  obtain ⟨h1, ⟨hv, hn⟩ | ⟨g, cap, cur, hv, hg, hh, hc, hm, hs, ht⟩⟩ := h
  · omega
  · have hb := Box.of hh
    have hget : ∀ j, j < l.length * 2 → cur[j]? = (evCells l)[j]? := by
      intro j hj
      rw [← ht, List.getElem?_take_of_lt hj]; simp
    refine ⟨g, cap, hv, hg, fun k hk => ?_, fun k hk => ?_, fun o => hb.frozen w (Ext.refl _) o⟩
    · rw [hb.cell w (Ext.refl _), hget _ (by omega), evCells_get0 l k hk, List.getD_eq_getElem?_getD, List.getElem?_eq_getElem hk]; rfl
    · rw [hb.cell w (Ext.refl _), hget _ (by omega), evCells_get1 l k hk, List.getD_eq_getElem?_getD, List.getElem?_eq_getElem hk]; rfl

end Go.Proofs.YteikcgfnkhoigaaGreat

namespace Go.Proofs.YteikcgfnkhoigaaGreat
open Go.RowKit Go.Shelf

theorem boxed1t {w : World} {c : Array Value} {t : TypeId} {G : World → Prop}
    (h : ∀ w2, Ext w w2 → w2.heap.size = w.heap.size + 1 → w2.heap[w.heap.size]? = some (.cells c t (0, 0)) → G w2) : G (w.alloc (.cells c t)) :=
  h _ (Ext.alloc _ _) (by simp) (by show (w.heap.push _)[w.heap.size]? = _; simp)
theorem evOwn_one {w : World} {base g : Nat} {x y : Int} (h : w.heap[g]? = some (.cells #[.int .i64 x, .int .i64 y] 65 (0, 0))) (hb : base ≤ g) : EvOwn w base (.slice (some ⟨g, 0, none⟩) 1 1) [(x, y)] :=
  ⟨rfl, .inr ⟨g, 1, _, rfl, hb, h, Nat.le_refl _, by unfold maxLen; omega, rfl, rfl⟩⟩
theorem Tr.lng_getD (T : Tr) (rows : Nat → List Int) (x : NN) (j i : Nat) (h : i < j + 1) : (T.lng rows x j).getD i (0, 0) = evI (T.prvN rows x i) := by
  have h' : i < (T.lng rows x j).length := by rw [Tr.lng_len]; exact h
  rw [List.getD_eq_getElem?_getD, List.getElem?_eq_getElem h', Option.getD_some, Tr.lng_get]
theorem setd2 {w : World} {p q : Addr} {v u : Value} {G : World → Prop} (h : ∀ w5, w5 = (w.setCell p v).setCell q u → G w5) : G ((w.setCell p v).setCell q u) := h _ rfl
theorem setd {w : World} {n : Nat} {p : Addr} {v : Value} {G : World → Prop} (h : ∀ w5, w5 = (w.drewN n).setCell p v → G w5) : G ((w.drewN n).setCell p v) := h _ rfl
set_option maxRecDepth 100000 in
set_option maxHeartbeats 4000000 in
theorem longest_yes (w : World) (T : TM) (hT : T.At w) (hV : T.toTr.Valid) (hE : ∀ k, k < T.n → T.en k ≤ 1000000) (x : NN) (hx : T.toTr.V x) :
    Calls Tryz.prog 36 #[T.val, .agg #[.int .i64 x.1, .int .i64 (x.2 + 1)]] w (LongPost T x.1 (x.2 + 1) w) := by
  obtain ⟨i0, hi0, hz0, hz1, hz2⟩ := info_parts infoEv
  obtain ⟨p, i⟩ := x
  obtain ⟨hp, hi⟩ := hx
  dsimp only at hp hi ⊢
  have hp' : (p : Int) < (T.n : Int) := by omega
  have hi' : (i : Int) < (T.en p : Int) := by omega
  have hep := hT.E.he p hp
  have hn1 := hV.n1
  have hn8 := hV.n8
  have pa := hT.P.pa (by omega)
  have pb := hT.P.pb (by omega)
  have p2 := hT.P.p2
  have hen := hT.E.he
  go_enter Tryz.func36, Tryz.ntmps36
  go_upto_region 1 with fail
  refine boxed2 (w := w) (G := fun x => Code.wp _ _ _ _ x) ?_
  intro w1 hx1 hs1 ⟨l0, c0, f0, k0⟩ ⟨l1, c1, f1, k1⟩
  have hx11 : Ext w1 w1 := Ext.refl _
  have hF : Calls Tryz.prog 45 #[T.val] w1 fun e w' => ∃ base cap rows vs, e = .returned (.tuple #[.slice (some ⟨base, 0, none⟩) T.n cap, .int .i64 0]) ∧ w1.heap.size ≤ base ∧ StS base base T.n rows vs w' ∧ T.toTr.Stamps rows ∧ Ext w1 w' :=
    (stamps_yes w1 T (hT.ext hx1) hV hE).mono fun e w' ⟨hx, h⟩ => by
      rcases h with ⟨h, _⟩ | ⟨_, base, cap, rows, vs, h1, h2, h3, h4⟩
      · exact absurd hV h
      · exact ⟨base, cap, rows, vs, h2, h1, h3, h4, hx⟩
  simp only [TM.val, pa] at hF
  have HT := Lib.hid hT
  have HV := Lib.hid hV
  have HE := Lib.hid hE
  have HS1 := Lib.hid hs1
  clear hs1 hT hV hE
  go_upto_region 4 with (go_at_call 45; refine hF.mono ?_; rintro e w2 ⟨base, cap, rows, vs, rfl, hb2, hs2, hst2, hx2⟩)
  have HB2 := Lib.hid hb2
  have HST := Lib.hid hst2
  have HS2 := Lib.hid hs2
  have hMM := hs2.mm (cap := cap)
  have s0 := hMM.p0
  have sb := hMM.pb (by show 0 < T.n; omega)
  have sr := hMM.r0
  have hl := hst2.len p hp
  have ra := hMM.ra p hp (by show 0 < (rows p).length; omega)
  simp only [stMM, Nat.zero_add] at s0 sb sr ra
  clear hF hb2 hs2 hst2 hMM
  have hx12 := hx1.trans hx2
  have hx22 : Ext w2 w2 := Ext.refl _
  have d1 : decide ((p : Int) < 0) = false := decide_eq_false (by omega)
  have d2 : decide ((T.n : Int) ≤ (p : Int)) = false := decide_eq_false (by omega)
  have d2' : decide (T.n ≤ p) = false := decide_eq_false (by omega)
  have d3 : decide ((i : Int) + 1 < 1) = false := decide_eq_false (by omega)
  have d4 : decide ((T.en p : Int) < (i : Int) + 1) = false := decide_eq_false (by omega)
  go_quiet (fail)
  go_upto_region 7 with fail
  refine boxed1t (w := w2.drewN _) (G := fun x => Code.wp _ _ _ _ x) ?_
  intro w3 hx3 hs3 k3
  have hx23 : Ext w2 w3 := (hx22.drewN _).trans hx3
  have HI0 := Lib.hid (LngI.mk (T := T) (rows := rows) (x := (p, i)) (w := w) (w2 := w2) (j := 0) (v := .slice (some ⟨w2.heap.size, 0, none⟩) 1 1) (wr := w3) (evOwn_one k3 (Nat.le_refl _)) (Hold.ext k0 (hx2.trans hx23)) (Hold.ext k1 (hx2.trans hx23)) (hx12.trans hx23) ⟨hx23.le, fun g h _ => hx23.block g h⟩)
  have hx13 : Ext w1 w3 := hx2.trans hx23
  clear hs3 k3 hx22 d1 d2 d2' d3 d4
  have HB12 := Lib.hid (show w.heap.size + 1 < w2.heap.size by have := HS1.out; have := hx2.le; omega)
  obtain ⟨st, hst⟩ : ∃ st : Int, st = stOf rows (p, i) := ⟨_, rfl⟩
  have hstb : 1 ≤ st ∧ st ≤ 10000000 := by
    have h1 := HST.out.sm p i hp hi
    have h2 := tot_small HE.out
    have h3 : T.n * 1000000 ≤ 8000000 := by omega
    rw [hst]; show 1 ≤ (rows p).getD i 0 ∧ (rows p).getD i 0 ≤ 10000000; omega
  have sg : ∀ w', Ext w2 w' → w'.cell? ⟨vBlock (vs p), i, none⟩ = some (.int .i64 st) := fun w' h => by rw [hst]; exact sr w' h p i hp (by omega)
  have HSt := Lib.hid hst
  clear hst sr
  have hw1 : IntKind.i64.wrap (i : Int) = (i : Int) := IntWalk.i64_in _ (by omega)
  go_quiet (fail)
  clear hw1
  clear c0 c1 l0 l1 f0 f1 k0 k1 hx11 hx13 hx23 hx3 s0 ra sg hx12
  go_wp2_with fail
  obtain ⟨x, hxe⟩ : ∃ x : NN, x = (p, i) := ⟨_, rfl⟩
  rw [← hxe] at HI0 HSt
  have hV0 : T.toTr.V x := by rw [hxe]; exact ⟨hp, hi⟩
  have HX := Lib.hid hxe
  clear hxe
  have HV0 := Lib.hid hV0
  clear hV0
  go_loopg [9, 8] st.toNat (fun gg v9 v8 wr => ∃ (j : Nat) (k : Int), 1 ≤ k ∧ st = k + j ∧ gg = k.toNat ∧ v9 = .int .i64 k ∧ LngI T rows x w w2 j v8 wr)
  case atStart => exact ⟨0, st, hstb.1, by omega, rfl, rfl, HI0.out.ext ((Ext.refl _).drewN _)⟩
  case round =>
    obtain ⟨j, k, hk1, hkj, rfl, rfl, hI⟩ := hrel
    have hpv := HST.out.prvN HV0.out j (by rw [← HSt.out]; omega)
    obtain ⟨⟨yp, yi⟩, hy⟩ : ∃ y, y = T.toTr.prvN rows x j := ⟨_, rfl⟩
    rw [← hy] at hpv
    obtain ⟨⟨hyp, hyi⟩, hys⟩ := hpv
    rw [← HSt.out] at hys
    dsimp only at hyp hyi
    have hyk : stOf rows (yp, yi) = k := by rw [hys]; omega
    have hb1 := hI.h1
    rw [← hy] at hb1
    dsimp only at hb1
    have hS := hI.kp.sts HS2.out (by omega) (by have := HB2.out; have := HS1.out; omega)
    have hMM := hS.mm (cap := cap)
    have s0 := hMM.p0
    have sb := hMM.pb (by show 0 < T.n; omega)
    have sr := hMM.r0
    have hl := HST.out.len yp hyp
    have ra := hMM.ra yp hyp (by show 0 < (rows yp).length; omega)
    simp only [stMM, Nat.zero_add] at s0 sb sr ra
    obtain ⟨l0, c0, f0, _⟩ := hI.h0.box
    obtain ⟨l1, c1, f1, _⟩ := hb1.box
    have hxr : Ext w wr := hI.bl
    have hrr : Ext wr wr := Ext.refl _
    have hyp' : (yp : Int) < (T.n : Int) := by omega
    have hyi' : (yi : Int) < (T.en yp : Int) := by omega
    have hey := hen yp hyp
    have HI := Lib.hid hI
    have HY := Lib.hid hy
    have HYK := Lib.hid hyk
    have hk2 : k ≤ 10000000 := by omega
    have hj2 : j ≤ 10000000 := by omega
    have HKJ := Lib.hid hkj
    have HMM := Lib.hid hMM
    clear hI hy hyk hys hS hMM hb1 hkj
    by_cases hk : 1 < k
    · have hpr := HST.out.prv (x := (yp, yi)) ⟨hyp, hyi⟩ (by rw [HYK.out]; exact hk)
      by_cases hz : 0 < yi
      · obtain ⟨q, hq⟩ : ∃ q : Int, q = stOf rows (yp, yi - 1) := ⟨_, rfl⟩
        have sg : ∀ w', Ext wr w' → w'.cell? ⟨vBlock (vs yp), yi - 1, none⟩ = some (.int .i64 q) := fun w' h => by rw [hq]; exact sr w' h yp (yi - 1) hyp (by omega)
        have HQ := Lib.hid hq
        have HPR := Lib.hid hpr
        clear hq sr hpr
        have d1 : decide ((1 : Int) < (yi : Int) + 1) = true := decide_eq_true (by omega)
        have dk : decide ((1 : Int) < k) = true := decide_eq_true hk
        have hw1 : IntKind.i64.wrap ((yi : Int) + 1 - 2) = (yi : Int) - 1 := by rw [IntWalk.i64_in _ (by omega)]; omega
        have hw2 : IntKind.i64.wrap (k - 1) = k - 1 := IntWalk.i64_in _ (by omega)
        by_cases hqk : q = k - 1
        · have dq : (q == k - 1) = true := by simpa using hqk
          go_upto_region 10 with fail
          go_quiet (fail)
          clear hw1 hw2
          go_upto_region 13 with fail
          refine setd (w := wr) (G := fun x => Code.wp _ _ _ _ x) ?_
          intro w5 hw5
          have HM5 := Lib.hid (HI.out.moved (w4 := wr.drewN _) (w5 := w5) HB12.out ((Ext.refl _).drewN _) (by rw [hw5]; exact Only.set _ _ _ _))
          obtain ⟨np, hnp⟩ : ∃ np : Int, np = yp := ⟨_, rfl⟩
          obtain ⟨ni, hni⟩ : ∃ ni : Int, ni = yi := ⟨_, rfl⟩
          have HNP := Lib.hid (show ((T.toTr.prvN rows x (j + 1)).1 : Int) = np ∧ ((T.toTr.prvN rows x (j + 1)).2 : Int) + 1 = ni by
            have e : T.toTr.prvN rows x (j + 1) = (yp, yi - 1) := by
              show T.toTr.prv rows (T.toTr.prvN rows x j) = _
              rw [← HY.out]; unfold Tr.prv; rw [if_pos ⟨hz, by rw [HYK.out, ← HQ.out]; exact hqk⟩]
            rw [e, hnp, hni]; exact ⟨rfl, by show ((yi - 1 : Nat) : Int) + 1 = yi; omega⟩)
          have HB5 := Lib.hid (show Hold w5 (w.heap.size + 1) #[.int .i64 np, .int .i64 ni] by
            have h9 := HI.out.h1
            rw [← HY.out] at h9
            rw [hw5, hnp, hni]
            exact Hold.set (Hold.drewN h9 _) 1 (.int .i64 yi))
          have HO5 := Lib.hid (show w5.ownsRow w2.heap.size 65 2 u8 (j + 1) (evCells (T.toTr.lng rows x j)) by have := HM5.out.1; unfold EvOwn at this; rw [Tr.lng_len] at this; exact this)
          clear hnp hni hw5 hqk
          obtain ⟨l5, c5, f5, _⟩ := HB5.out.box
          have h55 : Ext w5 w5 := Ext.refl _
          clear c0 l0 f0 c1 l1 f1 hrr s0 sb ra hxr
          go_wp2_with (at_builtin; refine wpList_append_own _ rfl _ _ 66 rfl w2.heap.size 65 i0 (.agg #[.int .i64 0, .int .i64 0]) 2 16 Tryz.underlying66 hi0 hz0 hz1 hz2 rfl (by decide) u8 (j + 1) (evCells (T.toTr.lng rows x j)) rfl (by exact HO5.out.alloc _) ⟨w5.heap.size, 0, none⟩ 1 1 [.int .i64 np, .int .i64 ni] rfl rfl (by exact news_ok w5 [_, _] _) (by intro u hu; simp at hu; rcases hu with rfl | rfl <;> rfl) (by unfold maxLen; omega) (by omega) (by have := HM5.out.2.2.1.size; simp; omega) ?_; rintro v6 w6 hown6 hg6 -; have H6 := Lib.hid (And.intro hown6 hg6); clear hown6 hg6)
          go_roundg (k - 1).toNat
          case rel =>
            refine ⟨j + 1, k - 1, by omega, by have := HKJ.out; omega, rfl, by go_num, LngI.step (w5 := w5) HB12.out HM5.out.2.1 HM5.out.2.2.1 ?_ HM5.out.2.2.2 ?_ ?_⟩
            · rw [HNP.out.1, HNP.out.2]; exact HB5.out
            · rw [HNP.out.1, HNP.out.2]; exact H6.out.1
            · exact ((Below.refl _ _).alloc HM5.out.2.2.1.size _).grown H6.out.2 (by have := HM5.out.2.2.1.size; simp; omega) HM5.out.1.block
          case measure => omega
        · have dq : (q == k - 1) = false := by simpa using hqk
          have HN := Lib.hid (show ¬ (0 < yi ∧ stOf rows (yp, yi - 1) = stOf rows (yp, yi) - 1) from fun h => hqk (by rw [HQ.out, h.2, HYK.out]))
          go_upto_region 10 with fail
          go_quiet (fail)
          clear hw1 hw2 hqk
          have hk3 : T.kind yp yi = 3 := HPR.out.2.2.2 HN.out
          obtain ⟨⟨sp, si⟩, hsn⟩ : ∃ s, s = T.toTr.sndN (yp, yi) := ⟨_, rfl⟩
          have hSnd : ∀ W, Ext w W → Calls Tryz.prog 89 #[T.val, .int .i64 (T.msg yp yi)] W fun e w' => e = .returned (.tuple #[.agg #[.int .i64 sp, .int .i64 (si + 1)], .bool true]) ∧ Ext W w' := fun W hx =>
            (sender_any W T (HT.out.ext hx) HV.out _).mono fun e w' ⟨hx', p, q, b, he, hf⟩ => by
              obtain ⟨hp, hq, hb⟩ := HV.out.found (x := ⟨(yp, yi), hyp, hyi⟩) hk3 hf
              rw [← Tr.sndN_eq, ← hsn] at hp hq
              exact ⟨by rw [he, hp, hq, hb], hx'⟩
          simp only [TM.val, pa] at hSnd
          have HSnd := Lib.hid hSnd
          have HSN := Lib.hid hsn
          clear hSnd hsn
          have e2 := HT.out.E.e2
          have ea := HT.out.E.ea yp hyp (by omega)
          have eb := HT.out.E.eb yp hyp (by omega)
          have hw1 : IntKind.i64.wrap (yi : Int) = (yi : Int) := IntWalk.i64_in _ (by omega)
          go_upto_region 12 with fail
          refine wp_region_reads 14 (by kernel_rfl) (by kernel_rfl) ?_
          simp only [List.take_succ_cons, List.take_zero]
          repeat still_step
          refine wpStill_nil ?_
          refine wpAny_ready (rs := [14]) (by kernel_rfl) (by simp) ?_
          refine AllReady.cons rfl (fun K hK => ?_) AllReady.nil
          go_simp
          go_at_call 89
          refine (HSnd.out _ ((hxr.drewN _).drew)).mono ?_
          rintro e w4 ⟨rfl, hx4⟩
          refine hK _ _ ?_; clear hK K
          refine wpAny_take (i := 15) (v := ?_) rfl (by kernel_rfl) (by kernel_rfl) (by kernel_rfl) (fun _ _ _ h => h) (Or.inl ⟨by rfl, ?_⟩) ?_
          rotate_left
          · intro w; go_simp; try with_reducible rfl
          refine wpAny_take (i := 16) (v := ?_) rfl (by kernel_rfl) (by kernel_rfl) (by kernel_rfl) (fun _ _ _ h => h) (Or.inl ⟨by rfl, ?_⟩) ?_
          rotate_left
          · intro w; go_simp; try with_reducible rfl
          refine wpAny_take (i := 17) (v := ?_) rfl (by kernel_rfl) (by kernel_rfl) (by kernel_rfl) (fun _ _ _ h => h) (Or.inl ⟨by rfl, ?_⟩) ?_
          rotate_left
          · intro w; go_simp; try with_reducible rfl
          have hx44 : Ext wr w4 := (((Ext.refl wr).drewN _).drew).trans hx4
          refine wpAny_ready (rs := [18]) (by kernel_rfl) (by simp) ?_
          refine AllReady.cons rfl (fun K hK => ?_) AllReady.nil
          go_simp
          refine hK _ _ ?_; clear hK K
          refine wpAny_done (by kernel_rfl) ?_ _
          clear hw1
          go_upto_region 13 with fail
          refine setd2 (w := w4) (G := fun x => Code.wp _ _ _ _ x) ?_
          intro w5 hw5
          have HM5 := Lib.hid (HI.out.moved (w4 := w4) (w5 := w5) HB12.out hx44 (by rw [hw5]; exact (Only.set _ _ _ _).trans (Only.set _ _ _ _)))
          obtain ⟨np, hnp⟩ : ∃ np : Int, np = sp := ⟨_, rfl⟩
          obtain ⟨ni, hni⟩ : ∃ ni : Int, ni = si + 1 := ⟨_, rfl⟩
          have HNP := Lib.hid (show ((T.toTr.prvN rows x (j + 1)).1 : Int) = np ∧ ((T.toTr.prvN rows x (j + 1)).2 : Int) + 1 = ni by
            have e : T.toTr.prvN rows x (j + 1) = (sp, si) := by
              show T.toTr.prv rows (T.toTr.prvN rows x j) = _
              rw [← HY.out]; unfold Tr.prv; rw [if_neg HN.out]; exact HSN.out.symm
            rw [e, hnp, hni]; exact ⟨rfl, rfl⟩)
          have HB5 := Lib.hid (show Hold w5 (w.heap.size + 1) #[.int .i64 np, .int .i64 ni] by
            have h9 := HI.out.h1
            rw [← HY.out] at h9
            rw [hw5, hnp, hni]
            exact Hold.set (Hold.set (Hold.ext h9 hx44) 0 (.int .i64 sp)) 1 (.int .i64 (si + 1)))
          have HO5 := Lib.hid (show w5.ownsRow w2.heap.size 65 2 u8 (j + 1) (evCells (T.toTr.lng rows x j)) by have := HM5.out.1; unfold EvOwn at this; rw [Tr.lng_len] at this; exact this)
          clear hnp hni hw5 hx44 hx4 hk3 e2 ea eb
          obtain ⟨l5, c5, f5, _⟩ := HB5.out.box
          have h55 : Ext w5 w5 := Ext.refl _
          clear c0 l0 f0 c1 l1 f1 hrr s0 sb ra hxr
          go_wp2_with (at_builtin; refine wpList_append_own _ rfl _ _ 66 rfl w2.heap.size 65 i0 (.agg #[.int .i64 0, .int .i64 0]) 2 16 Tryz.underlying66 hi0 hz0 hz1 hz2 rfl (by decide) u8 (j + 1) (evCells (T.toTr.lng rows x j)) rfl (by exact HO5.out.alloc _) ⟨w5.heap.size, 0, none⟩ 1 1 [.int .i64 np, .int .i64 ni] rfl rfl (by exact news_ok w5 [_, _] _) (by intro u hu; simp at hu; rcases hu with rfl | rfl <;> rfl) (by unfold maxLen; omega) (by omega) (by have := HM5.out.2.2.1.size; simp; omega) ?_; rintro v6 w6 hown6 hg6 -; have H6 := Lib.hid (And.intro hown6 hg6); clear hown6 hg6)
          go_roundg (k - 1).toNat
          case rel =>
            refine ⟨j + 1, k - 1, by omega, by have := HKJ.out; omega, rfl, by go_num, LngI.step (w5 := w5) HB12.out HM5.out.2.1 HM5.out.2.2.1 ?_ HM5.out.2.2.2 ?_ ?_⟩
            · rw [HNP.out.1, HNP.out.2]; exact HB5.out
            · rw [HNP.out.1, HNP.out.2]; exact H6.out.1
            · exact ((Below.refl _ _).alloc HM5.out.2.2.1.size _).grown H6.out.2 (by have := HM5.out.2.2.1.size; simp; omega) HM5.out.1.block
          case measure => omega
      · have d1 : decide ((1 : Int) < (yi : Int) + 1) = false := decide_eq_false (by omega)
        have dk : decide ((1 : Int) < k) = true := decide_eq_true hk
        have HPR := Lib.hid hpr
        have HN := Lib.hid (show ¬ (0 < yi ∧ stOf rows (yp, yi - 1) = stOf rows (yp, yi) - 1) from fun h => hz h.1)
        clear hpr
        go_upto_region 10 with fail
        go_quiet (fail)
        have hk3 : T.kind yp yi = 3 := HPR.out.2.2.2 HN.out
        obtain ⟨⟨sp, si⟩, hsn⟩ : ∃ s, s = T.toTr.sndN (yp, yi) := ⟨_, rfl⟩
        have hSnd : ∀ W, Ext w W → Calls Tryz.prog 89 #[T.val, .int .i64 (T.msg yp yi)] W fun e w' => e = .returned (.tuple #[.agg #[.int .i64 sp, .int .i64 (si + 1)], .bool true]) ∧ Ext W w' := fun W hx =>
          (sender_any W T (HT.out.ext hx) HV.out _).mono fun e w' ⟨hx', p, q, b, he, hf⟩ => by
            obtain ⟨hp, hq, hb⟩ := HV.out.found (x := ⟨(yp, yi), hyp, hyi⟩) hk3 hf
            rw [← Tr.sndN_eq, ← hsn] at hp hq
            exact ⟨by rw [he, hp, hq, hb], hx'⟩
        simp only [TM.val, pa] at hSnd
        have HSnd := Lib.hid hSnd
        have HSN := Lib.hid hsn
        clear hSnd hsn
        have e2 := HT.out.E.e2
        have ea := HT.out.E.ea yp hyp (by omega)
        have eb := HT.out.E.eb yp hyp (by omega)
        have hw1 : IntKind.i64.wrap (yi : Int) = (yi : Int) := IntWalk.i64_in _ (by omega)
        go_upto_region 12 with fail
        refine wp_region_reads 14 (by kernel_rfl) (by kernel_rfl) ?_
        simp only [List.take_succ_cons, List.take_zero]
        repeat still_step
        refine wpStill_nil ?_
        refine wpAny_ready (rs := [14]) (by kernel_rfl) (by simp) ?_
        refine AllReady.cons rfl (fun K hK => ?_) AllReady.nil
        go_simp
        go_at_call 89
        refine (HSnd.out _ ((hxr.drewN _).drew)).mono ?_
        rintro e w4 ⟨rfl, hx4⟩
        refine hK _ _ ?_; clear hK K
        refine wpAny_take (i := 15) (v := ?_) rfl (by kernel_rfl) (by kernel_rfl) (by kernel_rfl) (fun _ _ _ h => h) (Or.inl ⟨by rfl, ?_⟩) ?_
        rotate_left
        · intro w; go_simp; try with_reducible rfl
        refine wpAny_take (i := 16) (v := ?_) rfl (by kernel_rfl) (by kernel_rfl) (by kernel_rfl) (fun _ _ _ h => h) (Or.inl ⟨by rfl, ?_⟩) ?_
        rotate_left
        · intro w; go_simp; try with_reducible rfl
        refine wpAny_take (i := 17) (v := ?_) rfl (by kernel_rfl) (by kernel_rfl) (by kernel_rfl) (fun _ _ _ h => h) (Or.inl ⟨by rfl, ?_⟩) ?_
        rotate_left
        · intro w; go_simp; try with_reducible rfl
        have hx44 : Ext wr w4 := (((Ext.refl wr).drewN _).drew).trans hx4
        refine wpAny_ready (rs := [18]) (by kernel_rfl) (by simp) ?_
        refine AllReady.cons rfl (fun K hK => ?_) AllReady.nil
        go_simp
        refine hK _ _ ?_; clear hK K
        refine wpAny_done (by kernel_rfl) ?_ _
        clear hw1
        go_upto_region 13 with fail
        refine setd2 (w := w4) (G := fun x => Code.wp _ _ _ _ x) ?_
        intro w5 hw5
        have HM5 := Lib.hid (HI.out.moved (w4 := w4) (w5 := w5) HB12.out hx44 (by rw [hw5]; exact (Only.set _ _ _ _).trans (Only.set _ _ _ _)))
        obtain ⟨np, hnp⟩ : ∃ np : Int, np = sp := ⟨_, rfl⟩
        obtain ⟨ni, hni⟩ : ∃ ni : Int, ni = si + 1 := ⟨_, rfl⟩
        have HNP := Lib.hid (show ((T.toTr.prvN rows x (j + 1)).1 : Int) = np ∧ ((T.toTr.prvN rows x (j + 1)).2 : Int) + 1 = ni by
          have e : T.toTr.prvN rows x (j + 1) = (sp, si) := by
            show T.toTr.prv rows (T.toTr.prvN rows x j) = _
            rw [← HY.out]; unfold Tr.prv; rw [if_neg HN.out]; exact HSN.out.symm
          rw [e, hnp, hni]; exact ⟨rfl, rfl⟩)
        have HB5 := Lib.hid (show Hold w5 (w.heap.size + 1) #[.int .i64 np, .int .i64 ni] by
          have h9 := HI.out.h1
          rw [← HY.out] at h9
          rw [hw5, hnp, hni]
          exact Hold.set (Hold.set (Hold.ext h9 hx44) 0 (.int .i64 sp)) 1 (.int .i64 (si + 1)))
        have HO5 := Lib.hid (show w5.ownsRow w2.heap.size 65 2 u8 (j + 1) (evCells (T.toTr.lng rows x j)) by have := HM5.out.1; unfold EvOwn at this; rw [Tr.lng_len] at this; exact this)
        clear hnp hni hw5 hx44 hx4 hk3 e2 ea eb
        obtain ⟨l5, c5, f5, _⟩ := HB5.out.box
        have h55 : Ext w5 w5 := Ext.refl _
        clear c0 l0 f0 c1 l1 f1 hrr s0 sb ra hxr
        go_wp2_with (at_builtin; refine wpList_append_own _ rfl _ _ 66 rfl w2.heap.size 65 i0 (.agg #[.int .i64 0, .int .i64 0]) 2 16 Tryz.underlying66 hi0 hz0 hz1 hz2 rfl (by decide) u8 (j + 1) (evCells (T.toTr.lng rows x j)) rfl (by exact HO5.out.alloc _) ⟨w5.heap.size, 0, none⟩ 1 1 [.int .i64 np, .int .i64 ni] rfl rfl (by exact news_ok w5 [_, _] _) (by intro u hu; simp at hu; rcases hu with rfl | rfl <;> rfl) (by unfold maxLen; omega) (by omega) (by have := HM5.out.2.2.1.size; simp; omega) ?_; rintro v6 w6 hown6 hg6 -; have H6 := Lib.hid (And.intro hown6 hg6); clear hown6 hg6)
        go_roundg (k - 1).toNat
        case rel =>
          refine ⟨j + 1, k - 1, by omega, by have := HKJ.out; omega, rfl, by go_num, LngI.step (w5 := w5) HB12.out HM5.out.2.1 HM5.out.2.2.1 ?_ HM5.out.2.2.2 ?_ ?_⟩
          · rw [HNP.out.1, HNP.out.2]; exact HB5.out
          · rw [HNP.out.1, HNP.out.2]; exact H6.out.1
          · exact ((Below.refl _ _).alloc HM5.out.2.2.1.size _).grown H6.out.2 (by have := HM5.out.2.2.1.size; simp; omega) HM5.out.1.block
        case measure => omega
    · have hk1' : k = 1 := by omega
      have hrw := HI.out.own.row (by rw [Tr.lng_len]; omega)
      rw [Tr.lng_len] at hrw
      obtain ⟨g, cp, rfl, hg, hrow⟩ := hrw
      have hF := reverse_any wr g (j + 1) cp (fun k => evI (T.toTr.prvN rows x k)) ⟨fun k hk => by rw [hrow.c0 k hk, Tr.lng_getD _ _ _ _ _ hk], fun k hk => by rw [hrow.c1 k hk, Tr.lng_getD _ _ _ _ _ hk], hrow.fr⟩ (by omega) (by omega)
      have HG := Lib.hid hg
      have hst1 : (stOf rows x).toNat = j + 1 := by rw [← HSt.out]; have := HKJ.out; omega
      have HS3 := Lib.hid hst1
      clear hrow hg hst1
      go_wp2_with (go_at_call 90; refine hF.mono ?_; rintro e w7 ⟨rfl, hr7, hb7⟩)
      go_ret2
      refine ⟨Below.trans HI.out.bl (Below.mono hb7 (by have := HG.out; have := HB12.out; omega)), .inr (.inr ⟨HV.out, rows, x, g, cp, HST.out, HV0.out, by rw [HX.out], by rw [HX.out], by have := HG.out; have := HB12.out; omega, by rw [HS3.out]; rfl, ?_⟩)⟩
      rw [HS3.out]
      exact hr7

end Go.Proofs.YteikcgfnkhoigaaGreat
