/- Contracts of sums: yes, no, Exact, (sum).equal for unit sums. -/
import Derived.Test.YtnknkkmdbnaglaaGreatLq
namespace Go.Proofs.YtnknkkmdbnaglaaGreat
open Go.RowKit Go.Shelf
def put8 (w : World) (g : Nat) (v0 v1 v2 v3 v4 v5 v6 v7 : Value) : World :=
 (((((((w.setCell ⟨g, 0, none⟩ v0).setCell ⟨g, 1, none⟩ v1).setCell ⟨g, 2, none⟩ v2).setCell ⟨g, 3, none⟩ v3).setCell ⟨g, 4, none⟩ v4).setCell ⟨g, 5, none⟩ v5).setCell ⟨g, 6, none⟩ v6).setCell ⟨g, 7, none⟩ v7
theorem put8_size (w : World) (g : Nat) (v0 v1 v2 v3 v4 v5 v6 v7 : Value) : (put8 w g v0 v1 v2 v3 v4 v5 v6 v7).heap.size = w.heap.size := by simp only [put8, World.size_setCell]
theorem put8_other (w : World) (g : Nat) (v0 v1 v2 v3 v4 v5 v6 v7 : Value) (b : Nat) (h : b ≠ g) : (put8 w g v0 v1 v2 v3 v4 v5 v6 v7).heap[b]? = w.heap[b]? := by
 unfold put8
 rw [Below.heap_setCell _ _ _ _ h, Below.heap_setCell _ _ _ _ h, Below.heap_setCell _ _ _ _ h, Below.heap_setCell _ _ _ _ h, Below.heap_setCell _ _ _ _ h, Below.heap_setCell _ _ _ _ h, Below.heap_setCell _ _ _ _ h, Below.heap_setCell _ _ _ _ h]
theorem Ext.put8 {w0 w : World} (h : Ext w0 w) {g : Nat} (hg : w0.heap.size ≤ g) (v0 v1 v2 v3 v4 v5 v6 v7 : Value) : Ext w0 (Go.Proofs.YtnknkkmdbnaglaaGreat.put8 w g v0 v1 v2 v3 v4 v5 v6 v7) :=
 (((((((h.setCell hg v0).setCell hg v1).setCell hg v2).setCell hg v3).setCell hg v4).setCell hg v5).setCell hg v6).setCell hg v7
theorem Hold.all8 {W : World} {b : Nat} {u0 u1 u2 u3 u4 u5 u6 u7 : Value} (h : Hold W b #[u0, u1, u2, u3, u4, u5, u6, u7]) (v0 v1 v2 v3 v4 v5 v6 v7 : Value) : Hold (Go.Proofs.YtnknkkmdbnaglaaGreat.put8 W b v0 v1 v2 v3 v4 v5 v6 v7) b #[v0, v1, v2, v3, v4, v5, v6, v7] := by
 have := ((((((((h.set 0 v0).set 1 v1).set 2 v2).set 3 v3).set 4 v4).set 5 v5).set 6 v6).set 7 v7)
 simpa [Go.Proofs.YtnknkkmdbnaglaaGreat.put8] using this
theorem IntRow.put8 {w : World} {g n : Nat} {f : Nat → Int} (h : IntRow w g n f) (b : Nat) (v0 v1 v2 v3 v4 v5 v6 v7 : Value) (hp : g ≠ b) : IntRow (Go.Proofs.YtnknkkmdbnaglaaGreat.put8 w b v0 v1 v2 v3 v4 v5 v6 v7) g n f :=
 h.block (put8_other _ _ _ _ _ _ _ _ _ _ _ hp) (Nat.le_of_eq (put8_size ..).symm)
abbrev ansV (mode : Int) (holds : Bool) (kind : Int) (cut : Value) (value : Int) : Value := .agg #[.int .i64 mode, .bool holds, .int .i64 kind, cut, .slice none 0 0, .slice none 0 0, .slice none 0 0, .int .i64 value]
theorem yes_results (tmps : Array Value) (W : World) (b : Nat) (x0 x1 x2 x3 x4 x5 x6 x7 : Value) (t2 : tmps[2]? = some (.pointer (some ⟨b, 0, none⟩))) (h : Hold W b #[x0, x1, x2, x3, x4, x5, x6, x7]) :
    (results Tryz.f143 tmps).run Tryz.prog W = .ok (.agg #[x0, x1, x2, x3, x4, x5, x6, x7]) W := by
 have c0 := h.cell0 0
 have c1 := h.cell0 1
 have c2 := h.cell0 2
 have c3 := h.cell0 3
 have c4 := h.cell0 4
 have c5 := h.cell0 5
 have c6 := h.cell0 6
 have c7 := h.cell0 7
 simp at c0 c1 c2 c3 c4 c5 c6 c7
 simp [results, Tryz.results143, go_sem, t2, c0, c1, c2, c3, c4, c5, c6, c7]
theorem no_results (tmps : Array Value) (W : World) (b : Nat) (x0 x1 x2 x3 x4 x5 x6 x7 : Value) (t4 : tmps[4]? = some (.pointer (some ⟨b, 0, none⟩))) (h : Hold W b #[x0, x1, x2, x3, x4, x5, x6, x7]) :
    (results Tryz.f144 tmps).run Tryz.prog W = .ok (.agg #[x0, x1, x2, x3, x4, x5, x6, x7]) W := by
 have c0 := h.cell0 0
 have c1 := h.cell0 1
 have c2 := h.cell0 2
 have c3 := h.cell0 3
 have c4 := h.cell0 4
 have c5 := h.cell0 5
 have c6 := h.cell0 6
 have c7 := h.cell0 7
 simp at c0 c1 c2 c3 c4 c5 c6 c7
 simp [results, Tryz.results144, go_sem, t4, c0, c1, c2, c3, c4, c5, c6, c7]
set_option maxHeartbeats 1000000 in
theorem syes_any (w : World) (a : Option Addr) (n c : Nat) : Calls Tryz.prog 143 #[.slice a n c] w fun e w' => e = .returned (ansV 1 true 1 (.slice a n c) 0) ∧ Ext w w' := by
 go_enter Tryz.func143, Tryz.ntmps143
 go_upto_region 1 with fail
 refine boxed1 (w := w) (G := fun x => Code.wp _ _ _ _ x) ?_
 intro w1 hx1 hs1 ⟨l0, c0, f0, k0⟩
 have hx11 : Ext w1 w1 := Ext.refl _
 have hk9 := Hold.all8 (W := w1) (b := w.heap.size) k0 (.int .i64 1) (.bool true) (.int .i64 1) (.slice a n c) (.slice none 0 0) (.slice none 0 0) (.slice none 0 0) (.int .i64 0)
 have HK := Lib.hid hk9
 clear hs1 k0 hk9
 go_wp2_with fail
 refine bodyPost_ret (yes_results _ _ w.heap.size _ _ _ _ _ _ _ _ rfl HK.out) rfl ?_
 exact ⟨rfl, hx1.put8 (Nat.le_refl _) _ _ _ _ _ _ _ _⟩
set_option maxHeartbeats 1000000 in
theorem sno_any (w : World) (v : Int) (a : Option Addr) (n c : Nat) : Calls Tryz.prog 144 #[.int .i64 v, .slice a n c] w fun e w' => e = .returned (ansV 1 false 5 (.slice a n c) v) ∧ Ext w w' := by
 go_enter Tryz.func144, Tryz.ntmps144
 go_upto_region 1 with fail
 refine boxed1 (w := w) (G := fun x => Code.wp _ _ _ _ x) ?_
 intro w1 hx1 hs1 ⟨l0, c0, f0, k0⟩
 have hx11 : Ext w1 w1 := Ext.refl _
 have hk9 := Hold.all8 (W := w1) (b := w.heap.size) k0 (.int .i64 1) (.bool false) (.int .i64 5) (.slice a n c) (.slice none 0 0) (.slice none 0 0) (.slice none 0 0) (.int .i64 v)
 have HK := Lib.hid hk9
 clear hs1 k0 hk9
 go_wp2_with fail
 refine bodyPost_ret (no_results _ _ w.heap.size _ _ _ _ _ _ _ _ rfl HK.out) rfl ?_
 exact ⟨rfl, hx1.put8 (Nat.le_refl _) _ _ _ _ _ _ _ _⟩
theorem unitW_iff {w : Nat → Int} {m : Nat} : (!anyB (fun i => decide (1 < iabs (w i))) m) = true ↔ UnitW w m := by
 rw [Bool.not_eq_true', Bool.eq_false_iff, ne_eq, anyB_iff]
 constructor
 ·exact fun h v hv => Int.not_lt.1 fun hlt => h ⟨v, hv, decide_eq_true hlt⟩
 ·rintro h ⟨v, hv, h1⟩
  have h2 := of_decide_eq_true h1
  have := h v hv
  omega
def SxaPost (T : TM) (D : TmD) (k : Int) (w : World) (e : Ending) (w' : World) : Prop := Ext w w' ∧ ((∃ c : Int, T.SumFault D.l c ∧ c ≠ 0 ∧ e = .returned (.tuple #[.slice none 0 0, .int .i64 c])) ∨
 (T.SumOk D.l ∧ ¬ UnitW (T.wfn D.l) (tott T.en T.n) ∧ e = .returned (.tuple #[.slice none 0 0, .int .i64 15])) ∨
 (T.SumOk D.l ∧ UnitW (T.wfn D.l) (tott T.en T.n) ∧ ((∃ c g, e = .returned (.tuple #[.slice (some ⟨g, 0, none⟩) T.n T.n, .int .i64 0]) ∧ IntRow w' g T.n (natV c) ∧ w.heap.size ≤ g ∧ T.toTr.CutOk c ∧ (T.sumAt D.l fun _ => 0) + T.toTr.atC (T.wfn D.l) c = k) ∨
  (e = .returned (.tuple #[.slice none 0 0, .int .i64 7]) ∧ T.toTr.Out (T.wfn D.l) (T.sumAt D.l fun _ => 0) k))))
set_option maxRecDepth 100000 in
set_option maxHeartbeats 2000000 in
theorem sxa_any (w : World) (T : TM) (hT : T.At w) (D : TmD) (hD : D.At w) (k : Int) : Calls Tryz.prog 72 #[T.val, .slice D.s.a D.s.n D.s.c, .int .i64 k] w (SxaPost T D k w) := by
 have HOF := Lib.hid (fun W (h : Ext w W) => sof2_any' W T (hT.ext h) D (hD.ext h))
 unfold SxaPost
 obtain ⟨da, hda⟩ : ∃ z, z = D.s.a := ⟨_, rfl⟩
 have HDA := Lib.hid hda
 obtain ⟨ta, hta⟩ : ∃ z, z = T.a := ⟨_, rfl⟩
 have HTA := Lib.hid hta
 simp only [TM.val]
 rw [← hda, ← hta]
 clear hT hD hda hta
 go_enter Tryz.func72, Tryz.ntmps72
 go_upto_region 1 with fail
 refine boxed1 (w := w) (G := fun x => Code.wp _ _ _ _ x) ?_
 intro w1 hx1 hs1 ⟨l0, c0, _, _⟩
 have hx11 : Ext w1 w1 := Ext.refl _
 clear hs1
 have hof := HOF.out w1 hx1
 rw [← HDA.out, ← HTA.out] at hof
 go_wp2_with fail
 go_at_call 78
 refine hof.mono ?_
 rintro e w2 ⟨hx2, hr⟩
 clear hof
 rcases hr with ⟨c, hc, hF, rfl⟩ | ⟨hO, wa, wg, wo, wc, rfl, hS⟩
 ·go_upto_region 2 with fail
  refine boxed1 (w := w2) (G := fun x => Code.wp _ _ _ _ x) ?_
  intro w3 hx3 hs3 ⟨l3, c3, _, _⟩
  have hx33 : Ext w3 w3 := Ext.refl _
  have hxw3 := (hx1.trans hx2).trans hx3
  have hx13 := hx2.trans hx3
  clear hs3
  have HF := Lib.hid hF
  clear hF
  rcases hc with rfl | rfl | rfl | rfl | rfl <;> (go_wp2_with fail; go_ret2; exact ⟨hxw3, .inl ⟨_, HF.out, by decide, rfl⟩⟩)
 ·obtain ⟨m, hm⟩ : ∃ m, m = tott T.en T.n := ⟨_, rfl⟩
  obtain ⟨b, hb⟩ : ∃ b, b = T.toTr.sumAt D.l (fun _ => 0) := ⟨_, rfl⟩
  obtain ⟨r, hr⟩ : ∃ r, r = anyB (fun i => decide (1 < iabs (T.wfn D.l i))) (tott T.en T.n) := ⟨_, rfl⟩
  have HRR := Lib.hid (show (!r) = true ↔ UnitW (T.wfn D.l) m from by rw [hr, hm]; exact unitW_iff)
  have hgr := fun W (h : Ext w2 W) => (show Calls Tryz.prog 89 #[sumV T D wa wc (T.sumAt D.l fun _ => 0)] W (fun e w' => e = .returned (.bool (!r)) ∧ Ext W w') from by rw [hr]; exact sunit_any W _ (hS.ext h))
  have hex := fun W (h : Ext w2 W) (hu : UnitW (T.wfn D.l) m) => (show Calls Tryz.prog 146 #[sumV T D wa wc (T.sumAt D.l fun _ => 0), .int .i64 k] W (SexPost (sumOf T D wa wg wo wc) k W) from sex_any W (sumOf T D wa wg wo wc) (hS.ext h) k (by rw [hm] at hu; exact hu))
  simp only [sumV] at hgr hex ⊢
  rw [← hm, ← hb, ← HDA.out, ← HTA.out] at hgr hex
  rw [← hm, ← hb, ← HDA.out, ← HTA.out]
  have HGR := Lib.hid hgr
  have HEX := Lib.hid hex
  have HO := Lib.hid hO
  have HB := Lib.hid hb
  have HM := Lib.hid hm
  clear hgr hex hS hm hb hO hr
  go_upto_region 2 with fail
  refine boxed1 (w := w2) (G := fun x => Code.wp _ _ _ _ x) ?_
  intro w3 hx3 hs3 ⟨l3, c3, _, _⟩
  have hx33 : Ext w3 w3 := Ext.refl _
  have hxw3 := (hx1.trans hx2).trans hx3
  have hx13 := hx2.trans hx3
  clear hs3
  go_wp2_with fail
  go_at_call 89
  refine (HGR.out w3 hx3).mono ?_
  rintro e w4 ⟨rfl, hx4⟩
  have hxw4 := hxw3.trans hx4
  have hx14 := hx13.trans hx4
  have hx24 := hx3.trans hx4
  cases r with
  | true =>
   have HNU := Lib.hid (show ¬ UnitW (T.wfn D.l) (tott T.en T.n) from fun h => absurd (HRR.out.2 (by rw [HM.out]; exact h)) (by decide))
   go_wp2_with fail
   go_ret2
   exact ⟨hxw4, .inr (.inl ⟨HO.out, HNU.out, rfl⟩)⟩
  | false =>
   have HU := Lib.hid (HRR.out.1 rfl)
   have HU2 := Lib.hid (show UnitW (T.wfn D.l) (tott T.en T.n) from by rw [← HM.out]; exact HU.out)
   go_wp2_with fail
   go_at_call 146
   refine (HEX.out w4 hx24 HU.out).mono ?_
   rintro e w5 ⟨hx5, ⟨c, g, rfl, hr, hg, hc, hv⟩ | ⟨rfl, ho⟩⟩
   ·have hxw5 := hxw4.trans hx5
    have HF := Lib.hid (And.intro hr (And.intro hg (And.intro hc hv)))
    clear hr hg hc hv l3 c3 hx33
    go_wp2_with fail
    go_ret2
    exact ⟨hxw5, .inr (.inr ⟨HO.out, HU2.out, .inl ⟨c, g, rfl, HF.out.1, by have := HF.out.2.1; have := hxw4.le; omega, HF.out.2.2.1, by rw [HB.out] at *; exact HF.out.2.2.2⟩⟩)⟩
   ·have hxw5 := hxw4.trans hx5
    have HF := Lib.hid ho
    clear ho l3 c3 hx33
    go_wp2_with fail
    go_ret2
    exact ⟨hxw5, .inr (.inr ⟨HO.out, HU2.out, .inr ⟨rfl, by rw [HB.out] at *; exact HF.out⟩⟩)⟩
end Go.Proofs.YtnknkkmdbnaglaaGreat
