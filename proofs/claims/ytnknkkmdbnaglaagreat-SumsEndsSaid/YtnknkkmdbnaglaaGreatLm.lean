/- Contracts of the law of chapter 39: two, awake. -/
import Derived.Test.YtnknkkmdbnaglaaGreatLh
import Derived.Test.YtnknkkmdbnaglaaGreatLj
import Derived.Test.YtnknkkmdbnaglaaGreatLk
namespace Go.Proofs.YtnknkkmdbnaglaaGreat
open Go.RowKit Go.Shelf
def exSTM (gx g0 g1 a0 a1 a2 gp : Nat) : TM :=
 { ex39 with
  a := some ⟨gp, 0, none⟩, b := gp, off := 0, cap := 2
  va := fun _ => some ⟨gx, 0, none⟩, vb := fun _ => gx, vo := fun _ => 0, vc := fun _ => 1
  ea := fun k => if k = 0 then some ⟨g0, 0, none⟩ else some ⟨g1, 0, none⟩, eb := fun k => if k = 0 then g0 else g1, eo := fun _ => 0, ec := fun k => if k = 0 then 2 else 1
  aa := fun k i => if k = 0 then (if i = 0 then some ⟨a0, 0, none⟩ else some ⟨a1, 0, none⟩) else some ⟨a2, 0, none⟩, ab := fun k i => if k = 0 then (if i = 0 then a0 else a1) else a2, ao := fun _ _ => 0, ac := fun _ _ => 1 }
def exSTD (gt : Nat) : TmD := ⟨⟨some ⟨gt, 0, none⟩, 2, 2, gt, 0⟩, fun i => if i = 0 then 0 else 1, fun _ => ⟨#[120]⟩, fun _ => 1⟩
theorem exSTD_l (gt : Nat) : (exSTD gt).l = exL := by rfl
theorem okS : okI 0 ∧ okI 1 ∧ okI (-5) := by unfold okI; decide
theorem exSTD_at {gt : Nat} {w : World} (h : Hold w gt #[.int .i64 0, .string ⟨#[120]⟩, .int .i64 1, .int .i64 1, .string ⟨#[120]⟩, .int .i64 1]) : (exSTD gt).At w := by
 have b := h.box
 have hc : ∀ i, i < 2 → i = 0 ∨ i = 1 := fun i h => by omega
 refine ⟨by show (2 : Nat) ≤ _; decide, fun _ => rfl, fun _ => h.lt, fun i hi => ?_, fun i hi => ?_, fun i hi => ?_, fun i hi => ?_, fun i hi => by show (1 : Nat) ≤ _; decide, fun i hi => okS.2.1⟩
 ·rcases hc i hi with rfl | rfl
  ·exact h.cell0 0
  ·exact h.cell0 3
 ·rcases hc i hi with rfl | rfl
  ·exact h.cell0 1
  ·exact h.cell0 4
 ·rcases hc i hi with rfl | rfl
  ·exact h.cell0 2
  ·exact h.cell0 5
 ·rcases hc i hi with rfl | rfl
  ·exact okS.1
  ·exact okS.2.1
theorem exSTM_at {gx g0 g1 a0 a1 a2 gp : Nat} {w : World} (hx : Hold w gx #[.string ⟨#[120]⟩, .int .i64 0])
    (h0 : Hold w g0 #[.int .i64 1, .int .i64 0, .int .i64 0, .int .i64 0, .slice (some ⟨a0, 0, none⟩) 1 1, .int .i64 1, .int .i64 0, .int .i64 0, .int .i64 0, .slice (some ⟨a1, 0, none⟩) 1 1])
    (h1 : Hold w g1 #[.int .i64 1, .int .i64 0, .int .i64 0, .int .i64 0, .slice (some ⟨a2, 0, none⟩) 1 1])
    (q0 : Hold w a0 #[.int .i64 0, .int .i64 1]) (q1 : Hold w a1 #[.int .i64 0, .int .i64 (-5)]) (q2 : Hold w a2 #[.int .i64 0, .int .i64 1])
    (hp : Hold w gp #[.string ⟨#[97]⟩, .slice (some ⟨gx, 0, none⟩) 1 1, .slice (some ⟨g0, 0, none⟩) 2 2, .string ⟨#[98]⟩, .slice (some ⟨gx, 0, none⟩) 1 1, .slice (some ⟨g1, 0, none⟩) 1 1]) : (exSTM gx g0 g1 a0 a1 a2 gp).At w := by
 have bx := hx.box
 have b0 := h0.box
 have b1 := h1.box
 have c0 := q0.box
 have c1 := q1.box
 have c2 := q2.box
 have bp := hp.box
 have hv : ∀ i, i < 1 → i = 0 := fun i h => by omega
 have hen : ∀ k, k < 2 → ∀ i, i < (exSTM gx g0 g1 a0 a1 a2 gp).en k → (k = 0 ∧ i = 0) ∨ (k = 0 ∧ i = 1) ∨ (k = 1 ∧ i = 0) := by
  intro k hk i hi
  rcases ltS hk with rfl | rfl
  ·have : i < 2 := hi
   omega
  ·have : i < 1 := hi
   right; right; exact ⟨rfl, by omega⟩
 refine ⟨⟨by show (2 : Nat) ≤ _; decide, by show (2 : Nat) ≤ 2; decide, fun _ => rfl, fun _ => bp.lt, ?_, ?_, ?_⟩, ⟨fun _ _ => by show (1 : Nat) ≤ _; decide, fun _ _ => Nat.le_refl _, fun _ _ _ => rfl, fun _ _ _ => bx.lt, ?_, ?_⟩,
  ⟨?_, ?_, ?_, ?_, ?_, ?_, ?_, ?_, ?_⟩, ⟨fun _ _ _ _ => by show (1 : Nat) ≤ _; decide, fun _ _ _ _ => Nat.le_refl _, ?_, ?_, ?_, ?_⟩, ?_⟩
 ·intro w' x k hk
  rcases ltS hk with rfl | rfl
  ·exact bp.cell w' x 0
  ·exact bp.cell w' x 3
 ·intro w' x k hk
  rcases ltS hk with rfl | rfl
  ·exact bp.cell w' x 1
  ·exact bp.cell w' x 4
 ·intro w' x k hk
  rcases ltS hk with rfl | rfl
  ·exact bp.cell w' x 2
  ·exact bp.cell w' x 5
 ·intro w' x k i hk hi
  obtain rfl := hv i hi
  exact bx.cell w' x 0
 ·intro w' x k i hk hi
  obtain rfl := hv i hi
  exact bx.cell w' x 1
 ·intro k hk
  rcases ltS hk with rfl | rfl
  ·show (2 : Nat) ≤ _; decide
  ·show (1 : Nat) ≤ _; decide
 ·intro k hk
  rcases ltS hk with rfl | rfl
  ·exact Nat.le_refl _
  ·exact Nat.le_refl _
 ·intro k hk _
  rcases ltS hk with rfl | rfl <;> rfl
 ·intro k hk _
  rcases ltS hk with rfl | rfl
  ·exact b0.lt
  ·exact b1.lt
 ·intro w' x k i hk hi
  rcases hen k hk i hi with ⟨rfl, rfl⟩ | ⟨rfl, rfl⟩ | ⟨rfl, rfl⟩
  ·exact b0.cell w' x 0
  ·exact b0.cell w' x 5
  ·exact b1.cell w' x 0
 ·intro w' x k i hk hi
  rcases hen k hk i hi with ⟨rfl, rfl⟩ | ⟨rfl, rfl⟩ | ⟨rfl, rfl⟩
  ·exact b0.cell w' x 1
  ·exact b0.cell w' x 6
  ·exact b1.cell w' x 1
 ·intro w' x k i hk hi
  rcases hen k hk i hi with ⟨rfl, rfl⟩ | ⟨rfl, rfl⟩ | ⟨rfl, rfl⟩
  ·exact b0.cell w' x 2
  ·exact b0.cell w' x 7
  ·exact b1.cell w' x 2
 ·intro w' x k i hk hi
  rcases hen k hk i hi with ⟨rfl, rfl⟩ | ⟨rfl, rfl⟩ | ⟨rfl, rfl⟩
  ·exact b0.cell w' x 3
  ·exact b0.cell w' x 8
  ·exact b1.cell w' x 3
 ·intro w' x k i hk hi
  rcases hen k hk i hi with ⟨rfl, rfl⟩ | ⟨rfl, rfl⟩ | ⟨rfl, rfl⟩
  ·exact b0.cell w' x 4
  ·exact b0.cell w' x 9
  ·exact b1.cell w' x 4
 ·intro k i hk hi _
  rcases hen k hk i hi with ⟨rfl, rfl⟩ | ⟨rfl, rfl⟩ | ⟨rfl, rfl⟩ <;> rfl
 ·intro k i hk hi _
  rcases hen k hk i hi with ⟨rfl, rfl⟩ | ⟨rfl, rfl⟩ | ⟨rfl, rfl⟩
  ·exact c0.lt
  ·exact c1.lt
  ·exact c2.lt
 ·intro w' x k i j hk hi hj
  obtain rfl := hv j hj
  rcases hen k hk i hi with ⟨rfl, rfl⟩ | ⟨rfl, rfl⟩ | ⟨rfl, rfl⟩
  ·exact c0.cell w' x 0
  ·exact c1.cell w' x 0
  ·exact c2.cell w' x 0
 ·intro w' x k i j hk hi hj
  obtain rfl := hv j hj
  rcases hen k hk i hi with ⟨rfl, rfl⟩ | ⟨rfl, rfl⟩ | ⟨rfl, rfl⟩
  ·exact c0.cell w' x 1
  ·exact c1.cell w' x 1
  ·exact c2.cell w' x 1
 ·refine ⟨fun k hk => ?_, fun _ _ _ _ => by show (1 : Nat) ≤ _; decide, fun _ _ _ _ => okS.1, fun k i hk hi => okS.2.1, fun k i hk hi => okS.1, fun k i hk hi => okS.1, fun _ _ _ _ => okS.1, fun _ _ _ _ _ _ => okS.1, fun k i j hk hi hj => ?_⟩
  ·rcases ltS hk with rfl | rfl
   ·show (1 : Nat) ≤ _; decide
   ·show (1 : Nat) ≤ _; decide
  ·rcases hen k hk i hi with ⟨rfl, rfl⟩ | ⟨rfl, rfl⟩ | ⟨rfl, rfl⟩ <;> first | exact okS.1 | exact okS.2.1 | exact okS.2.2
theorem two1_results (tmps : Array Value) (W : World) (b : Nat) (x0 x1 x2 x3 x4 : Value) (t2 : tmps[2]? = some (.pointer (some ⟨b, 0, none⟩))) (c0 : W.cell? ⟨b, 0, none⟩ = some x0) (c1 : W.cell? ⟨b, 1, none⟩ = some x1) (c2 : W.cell? ⟨b, 2, none⟩ = some x2) (c3 : W.cell? ⟨b, 3, none⟩ = some x3) (c4 : W.cell? ⟨b, 4, none⟩ = some x4) :
    (results Tryz.f149 tmps).run Tryz.prog W = .ok (.agg #[x0, x1, x2, x3, x4]) W := by
 simp [results, go_sem, t2, c0, c1, c2, c3, c4]
set_option maxRecDepth 100000 in
set_option maxHeartbeats 1000000 in
theorem two1_any (w : World) (x : Int) : Calls Tryz.prog 149 #[.int .i64 x] w fun e w' => Ext w w' ∧ ∃ g, e = .returned (.agg #[.int .i64 1, .int .i64 0, .int .i64 0, .int .i64 0, .slice (some ⟨g, 0, none⟩) 1 1]) ∧ w.heap.size ≤ g ∧ Hold w' g #[.int .i64 0, .int .i64 x] := by
 go_enter Tryz.func149, Tryz.ntmps149
 go_upto_region 1 with fail
 refine boxed1 (w := w) (G := fun x => Code.wp _ _ _ _ x) ?_
 intro w1 hx1 hs1 ⟨l0, c0, f0, k0⟩
 have hx11 : Ext w1 w1 := Ext.refl _
 clear hs1
 go_wp2_with fail
 have kk : Hold w1 w.heap.size _ := k0
 have hk5 := ((((kk.set 0 (.int .i64 1)).set 1 (.int .i64 0)).set 2 (.int .i64 0)).set 3 (.int .i64 0)).set 4 (.slice (some ⟨w1.heap.size, 0, none⟩) 1 1)
 simp only [List.setIfInBounds_toArray, List.set_cons_zero, List.set_cons_succ] at hk5
 have hx2 := ((((hx1.setCell (p := ⟨w.heap.size, 0, none⟩) (by show w.heap.size ≤ w.heap.size; omega) (.int .i64 1)).setCell (p := ⟨w.heap.size, 1, none⟩) (by show w.heap.size ≤ w.heap.size; omega) (.int .i64 0)).setCell (p := ⟨w.heap.size, 2, none⟩) (by show w.heap.size ≤ w.heap.size; omega) (.int .i64 0)).setCell (p := ⟨w.heap.size, 3, none⟩) (by show w.heap.size ≤ w.heap.size; omega) (.int .i64 0)).setCell (p := ⟨w.heap.size, 4, none⟩) (by show w.heap.size ≤ w.heap.size; omega) (.slice (some ⟨w1.heap.size, 0, none⟩) 1 1)
 generalize hw2 : ((((w1.setCell ⟨w.heap.size, 0, none⟩ (.int .i64 1)).setCell ⟨w.heap.size, 1, none⟩ (.int .i64 0)).setCell ⟨w.heap.size, 2, none⟩ (.int .i64 0)).setCell ⟨w.heap.size, 3, none⟩ (.int .i64 0)).setCell ⟨w.heap.size, 4, none⟩ (.slice (some ⟨w1.heap.size, 0, none⟩) 1 1) = w2 at hk5 hx2 ⊢
 have hs2 : w1.heap.size = w2.heap.size := by rw [← hw2]; simp only [World.size_setCell]
 clear hw2
 rw [hs2] at hk5 ⊢
 refine boxed1 (w := w2) (G := fun x => bodyPost _ _ _ _ _ x) ?_
 intro w3 hx3 hs3 ⟨_, _, _, k3⟩
 have hk6 := Hold.ext hk5 hx3
 refine bodyPost_ret (two1_results _ _ _ _ _ _ _ _ rfl (hk6.cell0 0) (hk6.cell0 1) (hk6.cell0 2) (hk6.cell0 3) (hk6.cell0 4)) rfl ?_
 exact ⟨hx2.trans hx3, w2.heap.size, rfl, hx2.le, k3⟩
theorem two_results (tmps : Array Value) (W : World) (b : Nat) (x u : Value) (t0 : tmps[0]? = some (.pointer (some ⟨b, 0, none⟩))) (t1 : tmps[1]? = some u) (c : W.cell? ⟨b, 0, none⟩ = some x) :
    (results Tryz.f75 tmps).run Tryz.prog W = .ok (.tuple #[.agg #[x], u]) W := by
 simp [results, go_sem, t0, t1, c]
set_option maxRecDepth 100000 in
set_option maxHeartbeats 2000000 in
theorem two_any (w : World) : Calls Tryz.prog 75 #[] w fun e w' => Ext w w' ∧ ∃ gx g0 g1 a0 a1 a2 gp gt, e = .returned (.tuple #[.agg #[.slice (some ⟨gp, 0, none⟩) 2 2], .slice (some ⟨gt, 0, none⟩) 2 2]) ∧ (exSTM gx g0 g1 a0 a1 a2 gp).At w' ∧ (exSTD gt).At w' := by
 go_enter Tryz.func75, Tryz.ntmps75
 go_upto_region 1 with fail
 refine boxed1 (w := w) (G := fun x => Code.wp _ _ _ _ x) ?_
 intro w1 hx1 hs1 ⟨l0, c0, f0, k0⟩
 have hx11 : Ext w1 w1 := Ext.refl _
 have HS1 := Lib.hid hs1
 clear hs1
 go_upto_region 2 with fail
 refine boxed1 (w := w1) (G := fun x => Code.wp _ _ _ _ x) ?_
 intro w2 hx2 hs2 ⟨_, _, _, k2⟩
 have HS2 := Lib.hid hs2
 clear hs2
 have hx12 := hx2
 go_wp2_with fail
 go_at_call 149
 refine (two1_any w2 1).mono ?_
 rintro e w3 ⟨hx3, a0, rfl, ha0, q0⟩
 have hx13 := hx12.trans hx3
 go_wp2_with fail
 go_at_call 149
 refine (two1_any w3 (-5)).mono ?_
 rintro e w4 ⟨hx4, a1, rfl, ha1, q1⟩
 have hx14 := hx13.trans hx4
 go_wp2_with fail
 go_at_call 149
 refine boxed1 (w := w4) (G := fun x => Calls _ _ _ x _) ?_
 intro w5 hx5 hs5 ⟨_, _, _, k5⟩
 have hx15 := hx14.trans hx5
 clear hs5
 refine (two1_any w5 1).mono ?_
 rintro e w6 ⟨hx6, a2, rfl, ha2, q2⟩
 have hx16 := hx15.trans hx6
 go_upto_region 4 with fail
 refine boxed3 (w := w6) (G := fun x => Code.wp _ _ _ _ x) ?_
 intro w7 hx7 hs7 ⟨_, _, _, k7⟩ ⟨_, _, _, k8⟩ ⟨l9, c9, f9, k9⟩
 have hx17 := hx16.trans hx7
 have hx17a : ∀ o, Ext w1 (w7.alloc o) := fun o => hx17.alloc' o
 have hx77 : Ext w7 w7 := Ext.refl _
 have HS7 := Lib.hid hs7
 clear hs7
 go_wp2_with fail
 have e1 := HS1.out
 have e2 := HS2.out
 have l3 := hx3.le
 have l4 := hx4.le
 have l5 := hx5.le
 have l6 := hx6.le
 have x37 : Ext w3 w7 := hx4.trans (hx5.trans (hx6.trans hx7))
 have x47 : Ext w4 w7 := hx5.trans (hx6.trans hx7)
 have r0 := (Hold.ext (W := w1) k0 hx17).set 0 (.slice (some ⟨w6.heap.size + 1, 0, none⟩) 2 2)
 have rx := Hold.other (Hold.ext (W := w2) k2 (hx3.trans x37)) ⟨w.heap.size, 0, none⟩ (.slice (some ⟨w6.heap.size + 1, 0, none⟩) 2 2) (by show w1.heap.size ≠ w.heap.size; omega)
 have r1 := Hold.other (Hold.ext (W := w5) k5 (hx6.trans hx7)) ⟨w.heap.size, 0, none⟩ (.slice (some ⟨w6.heap.size + 1, 0, none⟩) 2 2) (by show w4.heap.size ≠ w.heap.size; omega)
 have r2 := Hold.other (W := w7) k7 ⟨w.heap.size, 0, none⟩ (.slice (some ⟨w6.heap.size + 1, 0, none⟩) 2 2) (by show w6.heap.size ≠ w.heap.size; omega)
 have r3 := Hold.other (Hold.ext q0 x37) ⟨w.heap.size, 0, none⟩ (.slice (some ⟨w6.heap.size + 1, 0, none⟩) 2 2) (by show a0 ≠ w.heap.size; omega)
 have r4 := Hold.other (Hold.ext q1 x47) ⟨w.heap.size, 0, none⟩ (.slice (some ⟨w6.heap.size + 1, 0, none⟩) 2 2) (by show a1 ≠ w.heap.size; omega)
 have r5 := Hold.other (Hold.ext q2 hx7) ⟨w.heap.size, 0, none⟩ (.slice (some ⟨w6.heap.size + 1, 0, none⟩) 2 2) (by show a2 ≠ w.heap.size; omega)
 have r6 := Hold.other (W := w7) k8 ⟨w.heap.size, 0, none⟩ (.slice (some ⟨w6.heap.size + 1, 0, none⟩) 2 2) (by show w6.heap.size + 1 ≠ w.heap.size; omega)
 have hx9 := (hx1.trans hx17).setCell (p := ⟨w.heap.size, 0, none⟩) (by show w.heap.size ≤ w.heap.size; omega) (.slice (some ⟨w6.heap.size + 1, 0, none⟩) 2 2)
 generalize hw9 : w7.setCell ⟨w.heap.size, 0, none⟩ (.slice (some ⟨w6.heap.size + 1, 0, none⟩) 2 2) = w9 at r0 rx r1 r2 r3 r4 r5 r6 hx9 ⊢
 have hs9 : w7.heap.size = w9.heap.size := by rw [← hw9, World.size_setCell]
 rw [hs9]
 clear hw9
 refine boxed1 (w := w9) (G := fun x => bodyPost _ _ _ _ _ x) ?_
 intro w8 hx8 hs8 ⟨_, _, _, k10⟩
 refine bodyPost_ret (two_results _ _ _ _ _ rfl rfl ((Hold.ext r0 hx8).cell0 0)) rfl ?_
 exact ⟨hx9.trans hx8, w1.heap.size, w4.heap.size, w6.heap.size, a0, a1, a2, w6.heap.size + 1, w9.heap.size, rfl, exSTM_at (Hold.ext rx hx8) (Hold.ext r1 hx8) (Hold.ext r2 hx8) (Hold.ext r3 hx8) (Hold.ext r4 hx8) (Hold.ext r5 hx8) (Hold.ext r6 hx8), exSTD_at k10⟩
theorem exS_zero : ex39.sumAt exL (fun _ => 0) = 0 := by rw [exS_sum]; rfl
theorem exS_nofault {c : Int} (h : ex39.SumFault exL c) : c = 0 := h.uniq (.inr (.inr (.inr (.inr (.inr ⟨exS_ok, rfl⟩)))))
theorem exmax_any (W : World) {gx g0 g1 a0 a1 a2 gp gt : Nat} (hT : (exSTM gx g0 g1 a0 a1 a2 gp).At W) (hD : (exSTD gt).At W) :
    Calls Tryz.prog 17 #[.agg #[.slice (some ⟨gp, 0, none⟩) 2 2], .slice (some ⟨gt, 0, none⟩) 2 2] W fun e w' => Ext W w' ∧ ∃ g, e = .returned (.tuple #[.int .i64 2, .slice (some ⟨g, 0, none⟩) 2 2, .int .i64 0]) ∧ NumAt w' 2 (some ⟨g, 0, none⟩) g 0 (fun _ => 1) := by
 refine (smax_any W _ hT _ hD).mono ?_
 rintro e w' ⟨hx, ⟨c, hc, h0, _⟩ | ⟨_, v, c, g, he, hrow, _, hb⟩⟩
 ·exact absurd (exS_nofault hc) h0
 ·have hb' : ex39.Best 0 (ex39.wfn exL) v c := by
    have h1 : ex39.Best (ex39.sumAt exL fun _ => 0) (ex39.wfn exL) v c := hb
    rw [exS_zero] at h1; exact h1
  obtain ⟨h1, h2⟩ := hb'.uniq exS_best
  subst h1
  refine ⟨hx, g, he, ⟨by decide, fun _ => rfl, fun _ => hrow.lt, fun k hk => ?_⟩⟩
  have h3 := hrow.c k hk
  have h4 := h2 k hk
  rw [Nat.zero_add, h3, h4]; rfl
theorem exmin_any (W : World) {gx g0 g1 a0 a1 a2 gp gt : Nat} (hT : (exSTM gx g0 g1 a0 a1 a2 gp).At W) (hD : (exSTD gt).At W) :
    Calls Tryz.prog 18 #[.agg #[.slice (some ⟨gp, 0, none⟩) 2 2], .slice (some ⟨gt, 0, none⟩) 2 2] W fun e w' => Ext W w' ∧ ∃ g, e = .returned (.tuple #[.int .i64 (-5), .slice (some ⟨g, 0, none⟩) 2 2, .int .i64 0]) ∧ NumAt w' 2 (some ⟨g, 0, none⟩) g 0 (fun i => if i = 0 then 2 else 0) := by
 refine (smin_any W _ hT _ hD).mono ?_
 rintro e w' ⟨hx, ⟨c, hc, h0, _⟩ | ⟨_, v, c, g, he, hrow, _, hb⟩⟩
 ·exact absurd (exS_nofault hc) h0
 ·have hb' : ex39.Best 0 (fun v => - ex39.wfn exL v) v c := by
    have h1 : ex39.Best (- ex39.sumAt exL fun _ => 0) (fun v => - ex39.wfn exL v) v c := hb
    rw [exS_zero] at h1; exact h1
  obtain ⟨h1, h2⟩ := hb'.uniq exS_least
  subst h1
  refine ⟨hx, g, he, ⟨by decide, fun _ => rfl, fun _ => hrow.lt, fun k hk => ?_⟩⟩
  have h3 := hrow.c k hk
  have h4 := h2 k hk
  rw [Nat.zero_add, h3, h4]
  rcases ltS hk with rfl | rfl <;> rfl
theorem lit_num {w : World} {x y : Int} {t : TypeId} {v : Nat → Int} (h0 : v 0 = x) (h1 : v 1 = y) : NumAt (w.alloc (.cells #[.int .i64 x, .int .i64 y] t)) 2 (some ⟨w.heap.size, 0, none⟩) w.heap.size 0 v := by
 have hb := Box.of (w := w.alloc (.cells #[.int .i64 x, .int .i64 y] t)) (b := w.heap.size) (c := #[.int .i64 x, .int .i64 y]) (t := t) (by show (w.heap.push _)[w.heap.size]? = _; simp)
 refine ⟨by decide, fun _ => rfl, fun _ => by simp, fun k hk => ?_⟩
 rw [Nat.zero_add]
 rcases ltS hk with rfl | rfl
 ·rw [h0]; exact hb.cell _ (Ext.refl _) 0
 ·rw [h1]; exact hb.cell _ (Ext.refl _) 1
set_option maxRecDepth 100000 in
set_option maxHeartbeats 2000000 in
theorem awake39_any (w : World) : Calls Tryz.prog 15 #[] w fun e w' => e = .returned (.bool true) ∧ Ext w w' := by
 go_enter Tryz.func15, Tryz.ntmps15
 go_wp2_with fail
 go_at_call 75
 refine (two_any w).mono ?_
 rintro e w1 ⟨hx1, gx, g0, g1, a0, a1, a2, gp, gt, rfl, hT, hD⟩
 have HT := Lib.hid (fun W (h : Ext w1 W) => hT.ext h)
 have HD := Lib.hid (fun W (h : Ext w1 W) => hD.ext h)
 clear hT hD
 go_upto_region 2 with fail
 refine boxed1 (w := w1) (G := fun x => Code.wp _ _ _ _ x) ?_
 intro w2 hx2 hs2 ⟨l2, c2, _, _⟩
 have hx22 : Ext w2 w2 := Ext.refl _
 clear hs2
 go_wp2_with fail
 go_at_call 17
 refine (exmax_any w2 (HT.out _ hx2) (HD.out _ hx2)).mono ?_
 rintro e w3 ⟨hx3, gc, rfl, hn3⟩
 have hx13 := hx2.trans hx3
 have HN3 := Lib.hid hn3
 clear hn3
 go_wp2_with fail
 go_at_call 18
 refine (exmin_any w3 (HT.out _ hx13) (HD.out _ hx13)).mono ?_
 rintro e w4 ⟨hx4, gd, rfl, hn4⟩
 have hx14 := hx13.trans hx4
 have HN4 := Lib.hid hn4
 clear hn4 l2 c2 hx22
 go_wp2_with fail
 go_at_call 23
 refine (eqi_any _ _ _ gc 0 w4.heap.size 0 2 2 2 2 (fun _ => 1) (fun _ => 1) ((HN3.out.ext hx4).ext (Ext.alloc _ _)) (lit_num rfl rfl)).mono ?_
 rintro e w5 ⟨b5, rfl, hb5, hx5⟩
 obtain rfl : b5 = true := hb5.2 ⟨rfl, fun _ _ => rfl⟩
 have hx45 := (Ext.alloc w4 (.cells #[.int .i64 1, .int .i64 1] 3)).trans hx5
 clear hb5
 go_wp2_with fail
 go_at_call 23
 refine (eqi_any _ _ _ gd 0 w5.heap.size 0 2 2 2 2 (fun i => if i = 0 then 2 else 0) (fun i => if i = 0 then 2 else 0) ((HN4.out.ext hx45).ext (Ext.alloc _ _)) (lit_num rfl rfl)).mono ?_
 rintro e w6 ⟨b6, rfl, hb6, hx6⟩
 obtain rfl : b6 = true := hb6.2 ⟨rfl, fun _ _ => rfl⟩
 have hx56 := (Ext.alloc w5 (.cells #[.int .i64 2, .int .i64 0] 3)).trans hx6
 clear hb6
 go_wp2_with fail
 go_ret
 exact ⟨rfl, hx1.trans (hx14.trans (hx45.trans hx56))⟩
end Go.Proofs.YtnknkkmdbnaglaaGreat
